/- The sums of rows of noughts, up to three hundred, are all others: reckoned by the kernel. -/
import Derived.Test.YtfmdpkilgnccfaaDoorSha5
namespace Go.Proofs.YtfmdpkilgnccfaaDoor.E
set_option linter.unusedVariables false
set_option linter.unusedSimpArgs false
def frc {α : Type} (n : Nat) (k : Nat → α) : α := Nat.rec (motive := fun _ => α) (k 0) (fun m _ => k (m + 1)) n
theorem frc_eq {α : Type} (n : Nat) (k : Nat → α) : frc n k = k n := by cases n <;> rfl
/-- The rounds, each word forced before it is handed on: for the kernel. -/
def fgo : List Nat → Nat → Nat → Nat → Nat → Nat → Nat → Nat → Nat → Nat → Nat → Nat → Nat → Nat → Nat → Nat → Nat → Nat → Nat → Nat → Nat → Nat → Nat → Nat → Nat → H8
  | [], _, _, _, _, _, _, _, _, _, _, _, _, _, _, _, _, a, b, c, d, e, f, g, h => ⟨a, b, c, d, e, f, g, h⟩
  | k :: ks, w0, w1, w2, w3, w4, w5, w6, w7, w8, w9, w10, w11, w12, w13, w14, w15, a, b, c, d, e, f, g, h =>
    frc (t1N ⟨a, b, c, d, e, f, g, h⟩ w0 k) fun t1 => frc ((t1 + t2N ⟨a, b, c, d, e, f, g, h⟩) % 4294967296) fun na => frc ((d + t1) % 4294967296) fun ne => frc ((lS1 w14 + (w9 + w0 + lS0 w1)) % 4294967296) fun w16 =>
      fgo ks w1 w2 w3 w4 w5 w6 w7 w8 w9 w10 w11 w12 w13 w14 w15 w16 na a b c ne e f g
def getsN (b : List Int) (t : Nat) : Nat := valN ((b.drop (4 * t)).take 4)
def fadd (z s : H8) : H8 := match z with
    | ⟨a, b, c, d, e, f, g, h⟩ => frc ((a + s.a) % 4294967296) fun a => frc ((b + s.b) % 4294967296) fun b => frc ((c + s.c) % 4294967296) fun c => frc ((d + s.d) % 4294967296) fun d => frc ((e + s.e) % 4294967296) fun e => frc ((f + s.f) % 4294967296) fun f => frc ((g + s.g) % 4294967296) fun g => frc ((h + s.h) % 4294967296) fun h => ⟨a, b, c, d, e, f, g, h⟩
theorem fadd_eq (z s : H8) : fadd z s = addN z s := by
  obtain ⟨a, b, c, d, e, f, g, h⟩ := z
  simp only [fadd, frc_eq, addN]
def fblk (s : H8) (b : List Int) : H8 :=
  frc (getsN b 0) fun w0 => frc (getsN b 1) fun w1 => frc (getsN b 2) fun w2 => frc (getsN b 3) fun w3 => frc (getsN b 4) fun w4 => frc (getsN b 5) fun w5 => frc (getsN b 6) fun w6 => frc (getsN b 7) fun w7 => frc (getsN b 8) fun w8 => frc (getsN b 9) fun w9 => frc (getsN b 10) fun w10 => frc (getsN b 11) fun w11 => frc (getsN b 12) fun w12 => frc (getsN b 13) fun w13 => frc (getsN b 14) fun w14 => frc (getsN b 15) fun w15 =>
    fadd (fgo rootsN w0 w1 w2 w3 w4 w5 w6 w7 w8 w9 w10 w11 w12 w13 w14 w15 s.a s.b s.c s.d s.e s.f s.g s.h) s
theorem fgo_eq (W : List Nat) (s : H8) (hW : ∀ t, 16 ≤ t → t < 64 → W.getD t 0 = (lS1 (W.getD (t - 2) 0) + (W.getD (t - 7) 0 + W.getD (t - 16) 0 + lS0 (W.getD (t - 15) 0))) % 4294967296) :
    ∀ (n : Nat) (t : Nat) (ks : List Nat) (w0 w1 w2 w3 w4 w5 w6 w7 w8 w9 w10 w11 w12 w13 w14 w15 a b c d e f g h : Nat), t + n = 64 → ks = rootsN.drop t → stN W s t = ⟨a, b, c, d, e, f, g, h⟩ →
      (∀ i, i < 16 → t + i < 64 → [w0, w1, w2, w3, w4, w5, w6, w7, w8, w9, w10, w11, w12, w13, w14, w15].getD i 0 = W.getD (t + i) 0) →
      fgo ks w0 w1 w2 w3 w4 w5 w6 w7 w8 w9 w10 w11 w12 w13 w14 w15 a b c d e f g h = stN W s 64 := by
  intro n
  induction n with
  | zero =>
    intro t ks w0 w1 w2 w3 w4 w5 w6 w7 w8 w9 w10 w11 w12 w13 w14 w15 a b c d e f g h ht hk hs hw
    obtain rfl : t = 64 := by omega
    have : ks = [] := by rw [hk]; rfl
    subst this
    rw [hs]; rfl
  | succ n ih =>
    intro t ks w0 w1 w2 w3 w4 w5 w6 w7 w8 w9 w10 w11 w12 w13 w14 w15 a b c d e f g h ht hk hs hw
    have hl : t < rootsN.length := by show t < 64; omega
    rw [List.drop_eq_getElem_cons hl] at hk
    subst hk
    rw [fgo, frc_eq, frc_eq, frc_eq, frc_eq]
    have h0 : w0 = W.getD t 0 := hw 0 (by omega) (by omega)
    have hr : rootsN[t] = rootsN.getD t 0 := by rw [List.getD_eq_getElem?_getD, List.getElem?_eq_getElem hl]; rfl
    refine ih (t + 1) _ _ _ _ _ _ _ _ _ _ _ _ _ _ _ _ _ _ _ _ _ _ _ _ _ (by omega) rfl ?_ ?_
    · rw [stN, hs, ← h0, ← hr]; rfl
    · intro i hi hi2
      by_cases h15 : i < 15
      · have := hw (i + 1) (by omega) (by omega)
        rw [show t + 1 + i = t + (i + 1) by omega, ← this]
        have hc : i = 0 ∨ i = 1 ∨ i = 2 ∨ i = 3 ∨ i = 4 ∨ i = 5 ∨ i = 6 ∨ i = 7 ∨ i = 8 ∨ i = 9 ∨ i = 10 ∨ i = 11 ∨ i = 12 ∨ i = 13 ∨ i = 14 := by omega
        rcases hc with rfl | rfl | rfl | rfl | rfl | rfl | rfl | rfl | rfl | rfl | rfl | rfl | rfl | rfl | rfl <;> rfl
      · obtain rfl : i = 15 := by omega
        have e14 : w14 = W.getD (t + 14) 0 := hw 14 (by omega) (by omega)
        have e9 : w9 = W.getD (t + 9) 0 := hw 9 (by omega) (by omega)
        have e1 : w1 = W.getD (t + 1) 0 := hw 1 (by omega) (by omega)
        rw [hW (t + 1 + 15) (by omega) (by omega), show t + 1 + 15 - 2 = t + 14 by omega, show t + 1 + 15 - 7 = t + 9 by omega, show t + 1 + 15 - 16 = t by omega, show t + 1 + 15 - 15 = t + 1 by omega, ← e14, ← e9, ← e1, ← h0]
        rfl
theorem fblk_eq (s : H8) (b : List Int) : fblk s b = blockN s b := by
  unfold fblk
  simp only [frc_eq]
  have := fgo_eq (wordsN b) s (wordsN_at b) 64 0 rootsN (getsN b 0) (getsN b 1) (getsN b 2) (getsN b 3) (getsN b 4) (getsN b 5) (getsN b 6) (getsN b 7) (getsN b 8) (getsN b 9) (getsN b 10) (getsN b 11) (getsN b 12) (getsN b 13) (getsN b 14) (getsN b 15) s.a s.b s.c s.d s.e s.f s.g s.h (Nat.zero_add 64) List.drop_zero.symm (by cases s; rw [stN]) (by
    intro i hi _
    rw [Nat.zero_add, wordsN_first b i hi]
    have hc : i = 0 ∨ i = 1 ∨ i = 2 ∨ i = 3 ∨ i = 4 ∨ i = 5 ∨ i = 6 ∨ i = 7 ∨ i = 8 ∨ i = 9 ∨ i = 10 ∨ i = 11 ∨ i = 12 ∨ i = 13 ∨ i = 14 ∨ i = 15 := by omega
    rcases hc with rfl | rfl | rfl | rfl | rfl | rfl | rfl | rfl | rfl | rfl | rfl | rfl | rfl | rfl | rfl | rfl <;> rfl)
  rw [this, fadd_eq, blockN]
def fgoB (s : H8) (xs : List Int) : Nat → H8
  | 0 => s
  | n + 1 => fgoB (fblk s (xs.take 64)) (xs.drop 64) n
def zwF (x : Nat) : Nat := (fgoB ivH (List.replicate x 0 ++ padL x) (blocks x)).a
def chk : List Nat → Nat → Bool
  | [], _ => true
  | t :: ts, x => Nat.beq (zwF x) t && chk ts (x + 1)
theorem fgoB_eq : ∀ (n : Nat) (s : H8) (xs : List Int), fgoB s xs n = runB s xs n
  | 0, s, xs => rfl
  | n + 1, s, xs => by
    rw [fgoB, fgoB_eq n, fblk_eq]
    unfold runB chunksL
    rw [List.range_succ_eq_map, List.map_cons, List.foldl_cons, List.map_map]
    have e : ∀ i, ((xs.drop 64).drop (64 * i)).take 64 = (xs.drop (64 * (i + 1))).take 64 := fun i => by rw [List.drop_drop]; congr 2; omega
    simp only [e, Nat.mul_zero, List.drop_zero]
    rfl
theorem chk_at : ∀ (l : List Nat) (x : Nat), chk l x = true → ∀ i, i < l.length → zwF (x + i) = l.getD i 0
  | [], x, _, i, hi => absurd hi (by simp)
  | t :: ts, x, h, i, hi => by
    rw [chk, Bool.and_eq_true] at h
    match i with
    | 0 => exact Nat.eq_of_beq_eq_true h.1
    | i + 1 =>
      have := chk_at ts (x + 1) h.2 i (by simpa using hi)
      rw [show x + (i + 1) = x + 1 + i by omega, this]
      rfl
def nd : List Nat → Bool
  | [] => true
  | t :: ts => ts.all (fun u => !Nat.beq t u) && nd ts
theorem nd_ne : ∀ (l : List Nat), nd l = true → ∀ i j, i < j → j < l.length → l.getD i 0 ≠ l.getD j 0
  | [], _, i, j, _, hj => absurd hj (by simp)
  | t :: ts, h, i, j, hij, hj => by
    rw [nd, Bool.and_eq_true, List.all_eq_true] at h
    obtain ⟨j, rfl⟩ : ∃ k, j = k + 1 := ⟨j - 1, by omega⟩
    have hj' : j < ts.length := by simpa using hj
    match i with
    | 0 =>
      have h1 := h.1 (ts.getD j 0) (by rw [List.getD_eq_getElem?_getD, List.getElem?_eq_getElem hj']; exact List.getElem_mem _)
      intro e
      have e2 : t = ts.getD j 0 := e
      rw [← e2] at h1
      simp at h1
    | i + 1 => exact nd_ne ts h.2 i j (by omega) hj'
def zt0 : List Nat := [3820012610, 1848904604, 2527237842, 1889435848, 3745472920, 2287292554, 2968939228, 2205713864, 2941612277, 1047558141, 30689455, 1907802581, 367819760, 3712402414, 3891063740, 1394802383, 927402239, 176689432, 1624941477, 3606930165, 3729246642, 3372364376, 1783133661, 22181350, 2643496655, 1628597729, 1704801994, 3930696351, 987626260, 300167618]
def zt1 : List Nat := [108602477, 4245208725, 1718123181, 2140970545, 3943967500, 223688161, 1840668629, 2871306591, 1982530102, 2495684307, 741658141, 2652321476, 155994417, 2241278649, 2239077176, 2316312675, 2274308855, 336517701, 397440543, 2022145960, 3425142497, 2391794814, 2035665709, 893376040, 3932527836, 41391206, 3565255333, 1705077943, 1723115698, 3718538892]
def zt2 : List Nat := [1573657432, 3336727614, 515582940, 3346153377, 4121296194, 2563654366, 4022010807, 467841945, 391228434, 3439706664, 2197618002, 134601948, 2202693787, 2622944394, 3498052817, 913598452, 4072723781, 123036143, 1431467147, 1097342864, 1534047630, 1735968711, 281820216, 8432119, 1340759658, 1782223617, 921197452, 1772410763, 284095109, 2696905651]
def zt3 : List Nat := [2559183305, 664136851, 1655785575, 3687828599, 3548305469, 2235721748, 782871441, 325964199, 807882522, 1261011032, 3439387282, 3767392662, 3290016044, 927229301, 972259213, 1379680582, 886822591, 2734464934, 1997750083, 3045754337, 4063465816, 616112379, 3053300600, 2501581973, 2150350609, 600663941, 1532066130, 4276343713, 24818871, 4128682197]
def zt4 : List Nat := [1860018031, 3625098724, 292644460, 1083867011, 2072955101, 1121360345, 3955522838, 366667159, 947010094, 746611101, 3847904295, 3546802366, 291220756, 1476381130, 3890723452, 1101636653, 3070698517, 1251182927, 1214939666, 1043699442, 604265488, 3693093313, 3085984948, 1712000982, 2177241587, 3280933524, 1442852139, 600202682, 991479180, 1443049353]
def zt5 : List Nat := [495145355, 1024674892, 2242749822, 4050009294, 4178694156, 816272703, 1505726609, 1589722449, 381865141, 3616185035, 3012794248, 2668558037, 2067508820, 2114831265, 1260580456, 715259243, 2159400996, 219280420, 3821186869, 1616725926, 3497779160, 1103592471, 1492261038, 868439618, 3937310890, 1427432262, 2261962587, 2374299434, 1760763262, 1577500585]
def zt6 : List Nat := [280143464, 3676591266, 182527153, 4048019392, 3625712464, 3132976998, 3044855468, 2533948684, 3816612784, 116003214, 132946937, 1354080417, 1569321046, 3844497973, 1544092804, 530468711, 3640975857, 2363834279, 2800399362, 1333037101, 1838961886, 2872964631, 2439068073, 772616160, 3234284867, 2541199228, 3128598719, 2461998069, 1190474167, 2552464309]
def zt7 : List Nat := [2654158909, 2833661206, 4119958544, 4266038487, 917545366, 213022398, 2774818426, 142599517, 3986245889, 3488850275, 2895820798, 734314975, 302513140, 2601084666, 1857461798, 468594220, 2890000728, 2523207713, 4217868135, 2061514223, 1581700083, 342620432, 3304903949, 3829393770, 75065487, 582569064, 544806876, 4276579441, 1273587337, 2453827492]
def zt8 : List Nat := [771466803, 4074233759, 4259284417, 3814273630, 3007215157, 47772664, 2370804770, 3359052714, 3014355330, 2679342867, 442295019, 3797482616, 2436656684, 2094563831, 3963502388, 2159893685, 1396827826, 1821592844, 1809020058, 1832428795, 2617284032, 546394140, 3122496925, 2818918591, 1152952909, 1986610640, 3893700451, 2197398992, 951821848, 21755255]
def zt9 : List Nat := [79499715, 4217013432, 3839392163, 4291714083, 3443810713, 2882838309, 3565748255, 1557976883, 1815782719, 1959401137, 527212002, 3759110909, 1258122879, 2272180558, 3609530856, 2175672870, 3601722962, 2019729810, 760571387, 1700393987, 2421525790, 199892082, 877917560, 1646689889, 124811334, 2061013247, 621761227, 3650246901, 827279311, 2457339119]
def zt : List Nat := zt0 ++ (zt1 ++ (zt2 ++ (zt3 ++ (zt4 ++ (zt5 ++ (zt6 ++ (zt7 ++ (zt8 ++ (zt9)))))))))
set_option maxRecDepth 100000 in
theorem zt_chk0 : chk zt0 0 = true := by decide +kernel
set_option maxRecDepth 100000 in
theorem zt_chk1 : chk zt1 30 = true := by decide +kernel
set_option maxRecDepth 100000 in
theorem zt_chk2 : chk zt2 60 = true := by decide +kernel
set_option maxRecDepth 100000 in
theorem zt_chk3 : chk zt3 90 = true := by decide +kernel
set_option maxRecDepth 100000 in
theorem zt_chk4 : chk zt4 120 = true := by decide +kernel
set_option maxRecDepth 100000 in
theorem zt_chk5 : chk zt5 150 = true := by decide +kernel
set_option maxRecDepth 100000 in
theorem zt_chk6 : chk zt6 180 = true := by decide +kernel
set_option maxRecDepth 100000 in
theorem zt_chk7 : chk zt7 210 = true := by decide +kernel
set_option maxRecDepth 100000 in
theorem zt_chk8 : chk zt8 240 = true := by decide +kernel
set_option maxRecDepth 100000 in
theorem zt_chk9 : chk zt9 270 = true := by decide +kernel
theorem chk_app : ∀ (l m : List Nat) (x : Nat), chk (l ++ m) x = (chk l x && chk m (x + l.length))
  | [], m, x => by simp [chk]
  | t :: ts, m, x => by
    rw [List.cons_append, chk, chk, chk_app ts m, List.length_cons, Bool.and_assoc, show x + 1 + ts.length = x + (ts.length + 1) by omega]
theorem zt_chk : chk zt 0 = true := by
  unfold zt
  simp only [chk_app]
  simp only [show (zt0.length = 30) from rfl, show (zt1.length = 30) from rfl, show (zt2.length = 30) from rfl, show (zt3.length = 30) from rfl, show (zt4.length = 30) from rfl, show (zt5.length = 30) from rfl, show (zt6.length = 30) from rfl, show (zt7.length = 30) from rfl, show (zt8.length = 30) from rfl, show (zt9.length = 30) from rfl, Nat.zero_add, Nat.reduceAdd, zt_chk0, zt_chk1, zt_chk2, zt_chk3, zt_chk4, zt_chk5, zt_chk6, zt_chk7, zt_chk8, zt_chk9, Bool.and_self]
set_option maxRecDepth 100000 in
theorem zt_nd : nd zt = true := by decide +kernel
theorem zt_len : zt.length = 300 := by decide +kernel
theorem beN4_inj {a b : Nat} (ha : a < 4294967296) (hb : b < 4294967296) (h : beN a 4 = beN b 4) : a = b := by
  have h1 := valN_beN a 4
  have h2 := valN_beN b 4
  rw [h] at h1
  omega
theorem sha_word {l m : List Int} (h : shaL l = shaL m) : (runB ivH (l ++ padL l.length) (blocks l.length)).a = (runB ivH (m ++ padL m.length) (blocks m.length)).a := by
  have ha := (foldB_ok ivH_ok (chunksL (l ++ padL l.length) (blocks l.length))).1
  have hb := (foldB_ok ivH_ok (chunksL (m ++ padL m.length) (blocks m.length))).1
  have h4 := congrArg (List.take 4) h
  have e : ∀ s : H8, (digL s.nats).take 4 = beN s.a 4 := fun s => by simp [digL, H8.nats, beN]
  unfold shaL at h4
  rw [e, e] at h4
  exact beN4_inj ha hb h4
theorem zeros_sum {x y : Nat} (hx : x < 300) (hy : y < 300) (h : shaL (List.replicate x 0) = shaL (List.replicate y 0)) : x = y := by
  have h1 := sha_word h
  rw [List.length_replicate, List.length_replicate, ← fgoB_eq, ← fgoB_eq] at h1
  have h2 : zwF x = zwF y := h1
  have a1 := chk_at zt 0 zt_chk x (by rw [zt_len]; exact hx)
  have a2 := chk_at zt 0 zt_chk y (by rw [zt_len]; exact hy)
  rw [Nat.zero_add] at a1 a2
  rcases Nat.lt_trichotomy x y with g | g | g
  · exact absurd (a1.symm.trans (h2.trans a2)) (nd_ne zt zt_nd x y g (by rw [zt_len]; exact hy))
  · exact g
  · exact absurd (a2.symm.trans (h2.symm.trans a1)) (nd_ne zt zt_nd y x g (by rw [zt_len]; exact hx))
end Go.Proofs.YtfmdpkilgnccfaaDoor.E
