/- The document's Next, by hand: it tells what nextL tells; the body is a part of what came in. -/
import Derived.Test.YtmepclalglmleaaQR
namespace Go.Proofs.Ytmepclalglmleaa.E
open Go.RowKit Go.Proofs.YtmepclalglmleaaW.PrintWords Go.Proofs.YtmepclalglmleaaW.PrintLast Go.Proofs.YtmepclalglmleaaW.PrintMore Go.Proofs.Ytmepclalglmleaa.Pr
set_option linter.unusedVariables false
set_option linter.unusedSimpArgs false
theorem rg0 (l : List Int) (hb : ∀ x ∈ l, 0 ≤ x ∧ x ≤ 255) (h8 : l.length ≤ 8) : ∀ (d p k : Nat), p + d = l.length → wicketmanref01_Get.l0 (k + d + 1) l ((valN (l.take p) : Nat) : Int) (p : Int) = some ((valN l : Nat) : Int)
  | 0, p, k, hp => by
    simp only [wicketmanref01_Get.l0]
    rw [if_neg (by omega), List.take_of_length_le (by omega)]
  | d + 1, p, k, hp => by
    obtain ⟨K, hK⟩ : ∃ K, K = k + d + 1 := ⟨_, rfl⟩
    rw [show k + (d + 1) + 1 = K + 1 by omega]
    simp only [wicketmanref01_Get.l0]
    have hpl : p < l.length := by omega
    have hx := hb _ (rd_mem hpl)
    have hv := valN_lt (l.take p) (fun x hx => hb x (List.mem_of_mem_take hx))
    have h7 : 256 ^ (l.take p).length ≤ 256 ^ 7 := Nat.pow_le_pow_right (by omega) (by rw [List.length_take]; omega)
    have htk : l.take (p + 1) = l.take p ++ [rd l (p : Int)] := by
      rw [List.take_succ_eq_append_getElem hpl]
      congr 2
      simp [rd, List.getD_eq_getElem?_getD, hpl]
    have hsn := valN_snoc (l.take p) (rd l (p : Int))
    rw [← htk] at hsn
    have e1 : IntKind.u64.wrap (256 * ((valN (l.take p) : Nat) : Int)) = ((256 * valN (l.take p) : Nat) : Int) := by rw [IntKind.wrap_u64]; omega
    have e2 : IntKind.u64.wrap (rd l (p : Int)) = rd l (p : Int) := by rw [IntKind.wrap_u64]; omega
    have e3 : IntKind.u64.wrap (((256 * valN (l.take p) : Nat) : Int) + rd l (p : Int)) = ((valN (l.take (p + 1)) : Nat) : Int) := by rw [IntKind.wrap_u64, hsn]; omega
    rw [if_pos (by omega), if_pos (by omega), e1, e2, e3, w64_succ p (by omega), hK]
    exact rg0 l hb h8 d (p + 1) k (by omega)
theorem ref_get (l : List Int) (hb : ∀ x ∈ l, 0 ≤ x ∧ x ≤ 255) (h8 : l.length ≤ 8) : wicketmanref01_Get.f 20 l = some ((valN l : Nat) : Int) := by
  unfold wicketmanref01_Get.f
  have e : mx 0 (wrap64 ((l.length : Int) - 8)) = 0 := by unfold mx wrap64; omega
  have h := rg0 l hb h8 l.length 0 (19 - l.length) (by omega)
  rw [show 19 - l.length + l.length + 1 = 20 by omega] at h
  rw [e]
  exact h
theorem beN_low (k a v : Nat) : ∀ j, j ≤ k → beN (256 ^ k * a + v) j = beN v j
  | 0, _ => rfl
  | j + 1, h => by
    have e : 256 ^ k * a = 256 ^ j * (256 * (256 ^ (k - j - 1) * a)) := by
      rw [← Nat.mul_assoc, ← Nat.mul_assoc, ← Nat.pow_succ, ← Nat.pow_add, show j + 1 + (k - j - 1) = k by omega]
    rw [beN, beN, beN_low k a v j (by omega), e, Nat.mul_add_div (Nat.pow_pos (by decide)), Nat.mul_add_mod]
theorem beN_valN : ∀ x : List Int, (∀ c ∈ x, 0 ≤ c ∧ c ≤ 255) → beN (valN x) x.length = x
  | [], _ => rfl
  | a :: l, h => by
    have h1 : valN (a :: l) = l.foldl (fun n c => 256 * n + c.toNat) (256 * 0 + a.toNat) := rfl
    have h2 := h a List.mem_cons_self
    have h3 := valN_lt l (fun c hc => h c (List.mem_cons_of_mem _ hc))
    rw [h1, valN_fold, Nat.mul_zero, Nat.zero_add, List.length_cons, beN, beN_low _ _ _ _ (Nat.le_refl _), beN_valN l (fun c hc => h c (List.mem_cons_of_mem _ hc)), Nat.mul_add_div (Nat.pow_pos (by decide)), Nat.div_eq_of_lt h3]
    congr 1
    omega
theorem frame_back (l : List Int) (hb : ∀ x ∈ l, 0 ≤ x ∧ x ≤ 255) (n : Nat) (hn : n = valN (l.take 4)) (hl : 16 + n ≤ l.length) :
    (frameL (valN ((l.drop 4).take 8)) ((l.drop 16).take n) = l.take (16 + n)) ↔ crcN (l.take 12 ++ (l.drop 16).take n) = valN ((l.drop 12).take 4) := by
  have hB : ((l.drop 16).take n).length = n := by rw [List.length_take, List.length_drop]; omega
  have h4 : (l.take 4).length = 4 := by rw [List.length_take]; omega
  have h8 : ((l.drop 4).take 8).length = 8 := by rw [List.length_take, List.length_drop]; omega
  have h4b : ((l.drop 12).take 4).length = 4 := by rw [List.length_take, List.length_drop]; omega
  have b4 : beN n 4 = l.take 4 := by
    have := beN_valN (l.take 4) (fun c hc => hb c (List.mem_of_mem_take hc))
    rwa [h4, ← hn] at this
  have b8 : beN (valN ((l.drop 4).take 8)) 8 = (l.drop 4).take 8 := by
    have := beN_valN ((l.drop 4).take 8) (fun c hc => hb c (List.mem_of_mem_drop (List.mem_of_mem_take hc)))
    rwa [h8] at this
  have hF : frontL (valN ((l.drop 4).take 8)) ((l.drop 16).take n) = l.take 12 := by
    unfold frontL
    rw [hB, b4, b8]
    have := List.take_add (l := l) (i := 4) (j := 8)
    exact this.symm
  have hT : l.take (16 + n) = l.take 12 ++ (l.drop 12).take 4 ++ (l.drop 16).take n := by
    rw [List.take_add, show (16 : Nat) = 12 + 4 from rfl, List.take_add]
  unfold frameL
  rw [hF, hT]
  obtain ⟨C, hC⟩ : ∃ C, C = crcN (l.take 12 ++ (l.drop 16).take n) := ⟨_, rfl⟩
  have hCl : C < 4294967296 := by
    rw [hC]
    refine crcN_lt fun x hx => ?_
    rcases List.mem_append.1 hx with hx | hx
    · exact hb x (List.mem_of_mem_take hx)
    · exact hb x (List.mem_of_mem_drop (List.mem_of_mem_take hx))
  rw [← hC]
  constructor
  · intro h
    have h1 := List.append_cancel_right h
    have h2 := List.append_cancel_left h1
    have h3 := valN_beN C 4
    rw [h2] at h3
    rw [h3]
    exact (Nat.mod_eq_of_lt (by omega)).symm
  · intro h
    have h1 := beN_valN ((l.drop 12).take 4) (fun c hc => hb c (List.mem_of_mem_drop (List.mem_of_mem_take hc)))
    rw [h4b, ← h] at h1
    rw [h1]
theorem strOfNums_inj : ∀ {a b : List Int}, (∀ x ∈ a, 0 ≤ x ∧ x ≤ 255) → (∀ x ∈ b, 0 ≤ x ∧ x ≤ 255) → strOfNums a = strOfNums b → a = b := by
  intro a b ha hb h
  unfold strOfNums at h
  have h2 := congrArg (fun s : ByteArray => s.data.toList) h
  simp only at h2
  have key : ∀ a b : List Int, (∀ x ∈ a, 0 ≤ x ∧ x ≤ 255) → (∀ x ∈ b, 0 ≤ x ∧ x ≤ 255) → a.map (fun x => UInt8.ofNat x.toNat) = b.map (fun x => UInt8.ofNat x.toNat) → a = b := by
    intro a
    induction a with
    | nil => intro b _ _ h; cases b with
      | nil => rfl
      | cons _ _ => simp at h
    | cons x a ih => intro b ha hb h; cases b with
      | nil => simp at h
      | cons y b =>
        simp only [List.map_cons, List.cons.injEq] at h
        have hx := ha x List.mem_cons_self
        have hy := hb y List.mem_cons_self
        have h3 := congrArg UInt8.toNat h.1
        simp only [UInt8.toNat_ofNat'] at h3
        rw [ih b (fun z hz => ha z (List.mem_cons_of_mem _ hz)) (fun z hz => hb z (List.mem_cons_of_mem _ hz)) h.2]
        congr 1
        omega
  exact key a b ha hb (by simpa using h2)
theorem rget_sub {w : World} {ad : Addr} {l : List Int} (h : Kd.C (Kd.int .u8) w (some ad) l.length l) (hall : ∀ x ∈ l, 0 ≤ x ∧ x ≤ 255) (i n c : Nat) (hi : i + n ≤ l.length) (hn : n ≤ 8) (hc : n ≤ c) :
    Calls Try.prog 52 #[.slice (some (ad.add i)) n c] w fun e w' => e = .returned (.int .u64 ((valN ((l.drop i).take n) : Nat) : Int)) ∧ Below w.heap.size w w' := by
  have hlen : ((l.drop i).take n).length = n := by rw [List.length_take, List.length_drop]; omega
  have hC := C_sub h i n hi
  have := wicketmanref01_Get.calls 20 (some (ad.add i)) c ((l.drop i).take n) _ w (by rw [hlen]; exact hC) (by omega) (ref_get _ (fun x hx => hall x (List.mem_of_mem_drop (List.mem_of_mem_take hx))) (by omega))
  rwa [hlen] at this
def rnextP (A0 : Option Addr) (w : World) (l : List Int) (e : Ending) (w' : World) : Prop :=
  ∃ (A : Option Addr) (c : Nat), e = .returned (.tuple #[.int .u64 (nextL l).1, .slice A (nextL l).2.1.length c, .int .i64 (nextL l).2.2]) ∧ (nextL l).2.1.length ≤ c ∧ (∀ W : World, Kd.C (Kd.int .u8) W A0 l.length l → Kd.C (Kd.int .u8) W A (nextL l).2.1.length (nextL l).2.1) ∧ Below w.heap.size w w'
theorem rnextP_none {A0 : Option Addr} {w w' : World} {l : List Int} (h : nextL l = (0, [], 0)) (hb : Below w.heap.size w w')  : rnextP A0 w l (.returned (.tuple #[.int .u64 0, .slice none 0 0, .int .i64 0])) w' := by
  refine ⟨none, 0, ?_, ?_, ?_, hb⟩
  · rw [h]; rfl
  · rw [h]; exact Nat.le_refl _
  · rw [h]; exact fun _ _ => Kd.C_empty _ _
set_option maxHeartbeats 4000000 in
set_option maxRecDepth 100000 in
theorem rnext_any (A0 : Option Addr) (c0 : Nat) (l0 : List Int) (w : World) (hr0 : Kd.C (Kd.int .u8) w A0 l0.length l0) (hc0 : l0.length ≤ c0) (hl : l0.length ≤ 1000000) (hall : ∀ x ∈ l0, 0 ≤ x ∧ x ≤ 255) :
    Calls Try.prog 45 #[.slice A0 l0.length c0] w (rnextP A0 w l0) := by
  by_cases h16 : 16 ≤ l0.length
  case neg =>
    have e : nextL l0 = (0, [], 0) := by unfold nextL; rw [if_pos (by omega)]
    have HE := Aside0.mk e
    have hm := Kd.C_max hr0
    clear e
    go_enter Try.func45, Try.ntmps45
    go_wp2
    go_ret3
    exact rnextP_none HE.out (Below.refl _ _)
  obtain ⟨ad, rfl, -⟩ := Kd.at_int hr0 0 (by omega) (by omega)
  have HR0 := Aside0.mk hr0
  have HALL := Aside0.mk hall
  have g4 := rget_sub hr0 hall 0 4 c0 (by omega) (by omega) (by omega)
  have ea : ad.add 0 = ad := Addr.add_zero' ad
  rw [ea, List.drop_zero] at g4
  have G4 := Aside0.mk g4
  obtain ⟨L, hL⟩ : ∃ L, L = l0.length := ⟨_, rfl⟩
  have HL := Aside0.mk hL
  obtain ⟨v, hv⟩ : ∃ v, v = valN (l0.take 4) := ⟨_, rfl⟩
  rw [← hv] at G4
  have hvl : v < 4294967296 := by
    have := valN_lt (l0.take 4) (fun x hx => hall x (List.mem_of_mem_take hx))
    rw [← hv] at this
    have h2 : (l0.take 4).length ≤ 4 := by rw [List.length_take]; omega
    have h3 : 256 ^ (l0.take 4).length ≤ 256 ^ 4 := Nat.pow_le_pow_right (by omega) h2
    omega
  have HV := Aside0.mk hv
  rw [← hL] at hl hc0 h16 ⊢
  clear hr0 hall g4 ea hL hv
  by_cases hbad : v > 65536 ∨ v > L - 16
  · have hres : nextL l0 = (0, [], 0) := by unfold nextL; rw [if_neg (by rw [← HL.out]; omega), if_pos (by rw [← HV.out, ← HL.out]; exact hbad)]
    have HRES := Aside0.mk hres
    clear hres
    by_cases h1 : v > 65536
    · clear hbad
      go_enter Try.func45, Try.ntmps45
      go_wp2_with (go_at_call 52; refine (G4.out).mono ?_; rintro e w' ⟨rfl, hb⟩; have HB := Aside0.mk hb; clear hb)
      go_ret3
      exact rnextP_none HRES.out HB.out
    · have h2 : L - 16 < v := by omega
      have h3 : (L : Int) - 16 < (v : Int) := by omega
      clear hbad
      go_enter Try.func45, Try.ntmps45
      go_wp2_with (go_at_call 52; refine (G4.out).mono ?_; rintro e w' ⟨rfl, hb⟩; have HB := Aside0.mk hb; clear hb)
      go_ret3
      exact rnextP_none HRES.out HB.out
  · have h1 : v ≤ 65536 := by omega
    have h2 : (v : Int) ≤ (L : Int) - 16 := by omega
    have g4b := fun (W : World) (hW : Below w.heap.size w W) => rget_sub (Kd.C_below HR0.out hW) HALL.out 4 8 (c0 - 4) (by rw [← HL.out]; omega) (by omega) (by omega)
    have cb : ∀ W : World, Kd.C (Kd.int .u8) W (some ad) l0.length l0 → Kd.C (Kd.int .u8) W (some (ad.add 16)) v ((l0.drop 16).take v) := fun W h => C_sub h 16 v (by rw [← HL.out]; omega)
    have ct : Kd.C (Kd.int .u8) w (some (ad.add 0)) (16 + v) ((l0.drop 0).take (16 + v)) := C_sub HR0.out 0 (16 + v) (by rw [← HL.out]; omega)
    rw [Addr.add_zero', List.drop_zero] at ct
    have lb : ((l0.drop 16).take v).length = v := by rw [List.length_take, List.length_drop, ← HL.out]; omega
    obtain ⟨q, hq⟩ : ∃ q, q = valN ((l0.drop 4).take 8) := ⟨_, rfl⟩
    have hql : q < 18446744073709551616 := by
      have := valN_lt ((l0.drop 4).take 8) (fun x hx => HALL.out x (List.mem_of_mem_drop (List.mem_of_mem_take hx)))
      rw [← hq] at this
      have h2 : ((l0.drop 4).take 8).length ≤ 8 := by rw [List.length_take]; omega
      have h3 : 256 ^ ((l0.drop 4).take 8).length ≤ 256 ^ 8 := Nat.pow_le_pow_right (by omega) h2
      omega
    have hfb := frame_back l0 HALL.out v HV.out (by rw [← HL.out]; omega)
    rw [← hq] at hfb
    have hnx : nextL l0 = if crcN (l0.take 12 ++ (l0.drop 16).take v) ≠ valN ((l0.drop 12).take 4) then (0, [], 0) else (((q : Nat) : Int), (l0.drop 16).take v, ((16 + v : Nat) : Int)) := by
      unfold nextL
      rw [if_neg (by rw [← HL.out]; omega), if_neg (by rw [← HV.out, ← HL.out]; omega), ← HV.out]
      have : (l0.take 12).drop 4 = (l0.drop 4).take 8 := by rw [List.drop_take]
      rw [this, ← hq]
    obtain ⟨B, hB⟩ : ∃ B, B = (l0.drop 16).take v := ⟨_, rfl⟩
    obtain ⟨T, hT⟩ : ∃ T, T = l0.take (16 + v) := ⟨_, rfl⟩
    have hBB : ∀ x ∈ B, 0 ≤ x ∧ x ≤ 255 := by rw [hB]; exact fun x hx => HALL.out x (List.mem_of_mem_drop (List.mem_of_mem_take hx))
    have hTB : ∀ x ∈ T, 0 ≤ x ∧ x ≤ 255 := by rw [hT]; exact fun x hx => HALL.out x (List.mem_of_mem_take hx)
    rw [← hB] at cb lb hnx hfb
    rw [← hT] at ct hfb
    rw [← hq] at g4b
    have hFr := ref_frame q hql B hBB (by omega) (10 * B.length + 200) (Nat.le_refl _)
    have hFB := frameL_bytes q B hBB
    obtain ⟨F, hF⟩ : ∃ F, F = frameL q B := ⟨_, rfl⟩
    rw [← hF] at hFr hfb hFB
    have hadb : ∃ adb : Addr, (∀ W : World, Kd.C (Kd.int .u8) W (some ad) l0.length l0 → Kd.C (Kd.int .u8) W (some adb) v B) ∧ ((c0 = 16 ∧ adb = ad) ∨ (c0 ≠ 16 ∧ adb = ⟨ad.block, ad.off + 16, none⟩)) := by
      by_cases hcap : c0 = 16
      · have hv0 : v = 0 := by omega
        subst hv0
        obtain rfl : B = [] := List.eq_nil_of_length_eq_zero lb
        exact ⟨ad, fun _ _ => Kd.C_empty _ _, .inl ⟨hcap, rfl⟩⟩
      · have e16 : ad.add 16 = ⟨ad.block, ad.off + 16, none⟩ := Addr.add_succ' ad 15
        exact ⟨_, by rw [← e16]; exact cb, .inr ⟨hcap, rfl⟩⟩
    clear cb
    obtain ⟨adb, cb, hca⟩ := hadb
    have hcF := fun (W : World) (hW : Below w.heap.size w W) => wicketmanref13_Frame.calls (10 * B.length + 200) (q : Int) (some adb) (c0 - 16) B F 0 W (by rw [lb]; exact Kd.C_below (cb _ HR0.out) hW) (by omega) hFr
    have e4 : ad.add 4 = ⟨ad.block, ad.off + 4, none⟩ := Addr.add_succ' ad 3
    rw [e4] at g4b
    replace hcF := fun W hW => (by have := hcF W hW; rwa [lb] at this : Calls Try.prog 29 #[.int .u64 (q : Int), .slice (some adb) v (c0 - 16)] W fun e w' => ∃ v0_ : Value, e = .returned (.tuple #[v0_, .int .i64 0]) ∧ Kd.R (Kd.int .u8) 5 w' W.heap.size (fun _ => True) v0_ F ∧ Below W.heap.size W w')
    have ev : 16 + v - 16 = v := by omega
    have hFT : (F = T ∧ nextL l0 = (((q : Nat) : Int), B, ((16 + v : Nat) : Int))) ∨ (((strOfNums F).toList == (strOfNums T).toList) = false ∧ nextL l0 = (0, [], 0)) := by
      by_cases h : F = T
      · left
        refine ⟨h, ?_⟩
        rw [hnx, if_neg (fun e => e (hfb.1 h))]
      · right
        refine ⟨beq_eq_false_iff_ne.2 fun e => h (strOfNums_inj hFB hTB (ByteArray.ext (Array.toList_inj.1 (by rw [ByteArray.toList_eq, ByteArray.toList_eq] at e; exact e)))), ?_⟩
        rw [hnx, if_pos (fun e => h (hfb.2 e))]
    have G4B := Aside0.mk g4b
    have CF := Aside0.mk hcF
    have CB := Aside0.mk cb
    have CT := Aside0.mk ct
    have LB := Aside0.mk lb
    clear hbad e4 g4b cb ct lb hBB hTB hFr hF hB hT hq hcF hfb hnx hFB
    have hc16 : (16 : Int) ≤ (c0 : Int) := by omega
    rcases hFT with ⟨rfl, hres⟩ | ⟨hne, hres⟩
    · have HRES := Aside0.mk hres
      clear hres
      rcases hca with ⟨rfl, rfl⟩ | ⟨hcap, rfl⟩
      all_goals
        have hstr := fun (W : World) (hW : Below w.heap.size w W) (c : Nat) => Kd.C_string (P := Try.prog) (c := c) Try.underlying22 Try.underlying5 Try.underlying9 (Kd.C_below CT.out hW)
        have HSTR := Aside0.mk hstr
        clear hstr
        go_enter Try.func45, Try.ntmps45
        go_wp2_with (first | (go_at_call 52; ((with_reducible refine (G4.out).mono ?_); rintro e w1 ⟨rfl, hb⟩); have HB := Aside0.mk hb; clear hb) | (go_at_call 52; ((with_reducible refine (G4B.out _ HB.out).mono ?_); rintro e w2 ⟨rfl, hb⟩); have HB2 := Aside0.mk (below_step HB.out hb); clear hb) | (go_at_call 29; ((with_reducible refine (CF.out _ HB2.out).mono ?_))))
        rintro e w3 ⟨v3, rfl, hR, hb⟩
        have HB3 := Aside0.mk (below_step HB2.out hb)
        obtain ⟨Af, cf, rfl, hfl, hfc⟩ := Kd.R_reads hR
        have hs1 := Kd.C_string (P := Try.prog) (c := cf) Try.underlying22 Try.underlying5 Try.underlying9 hfc
        have hs1' := Kd.C_string (P := Try.prog) (c := cf) Try.underlying22 Try.underlying5 Try.underlying9 (Kd.C_below hfc (Below.refl _ _).drew)
        have hs2 := HSTR.out _ HB3.out
        have hs2' := HSTR.out _ HB3.out.drew
        clear hR hb hfc hfl
        go_wp2
        go_region
        all_goals go_wp2
        all_goals go_ret3
        have hcast : ((16 + v : Nat) : Int) = 16 + (v : Int) := by omega
        refine ⟨_, _, by rw [HRES.out]; show _ = Ending.returned (.tuple #[.int .u64 (q : Int), .slice _ B.length _, .int .i64 ((16 + v : Nat) : Int)]); rw [LB.out, hcast]; rfl, ?_, by rw [HRES.out]; show ∀ W : World, _ → Kd.C _ _ _ B.length _; rw [LB.out]; exact CB.out, HB3.out.drew⟩
        rw [HRES.out]; show B.length ≤ _; rw [LB.out]; omega
    · have HRES := Aside0.mk hres
      clear hres
      rcases hca with ⟨rfl, rfl⟩ | ⟨hcap, rfl⟩
      all_goals
        have hstr := fun (W : World) (hW : Below w.heap.size w W) (c : Nat) => Kd.C_string (P := Try.prog) (c := c) Try.underlying22 Try.underlying5 Try.underlying9 (Kd.C_below CT.out hW)
        have HSTR := Aside0.mk hstr
        clear hstr
        go_enter Try.func45, Try.ntmps45
        go_wp2_with (first | (go_at_call 52; ((with_reducible refine (G4.out).mono ?_); rintro e w1 ⟨rfl, hb⟩); have HB := Aside0.mk hb; clear hb) | (go_at_call 52; ((with_reducible refine (G4B.out _ HB.out).mono ?_); rintro e w2 ⟨rfl, hb⟩); have HB2 := Aside0.mk (below_step HB.out hb); clear hb) | (go_at_call 29; ((with_reducible refine (CF.out _ HB2.out).mono ?_))))
        rintro e w3 ⟨v3, rfl, hR, hb⟩
        have HB3 := Aside0.mk (below_step HB2.out hb)
        obtain ⟨Af, cf, rfl, hfl, hfc⟩ := Kd.R_reads hR
        have hs1 := Kd.C_string (P := Try.prog) (c := cf) Try.underlying22 Try.underlying5 Try.underlying9 hfc
        have hs1' := Kd.C_string (P := Try.prog) (c := cf) Try.underlying22 Try.underlying5 Try.underlying9 (Kd.C_below hfc (Below.refl _ _).drew)
        have hs2 := HSTR.out _ HB3.out
        have hs2' := HSTR.out _ HB3.out.drew
        clear hR hb hfc hfl
        go_wp2
        go_region
        all_goals go_wp2
        all_goals go_ret3
        exact rnextP_none HRES.out HB3.out.drew
end Go.Proofs.Ytmepclalglmleaa.E
