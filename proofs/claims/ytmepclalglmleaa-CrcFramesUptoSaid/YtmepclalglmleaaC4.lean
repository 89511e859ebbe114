/- crc.Next by hand. -/
import Derived.Test.YtmepclalglmleaaC3
namespace Go.Proofs.Ytmepclalglmleaa.E
open Go.RowKit Go.Proofs.YtmepclalglmleaaW.PrintWords Go.Proofs.YtmepclalglmleaaW.PrintLast Go.Proofs.YtmepclalglmleaaW.PrintMore Go.Proofs.Ytmepclalglmleaa.Pr
set_option linter.unusedVariables false
set_option linter.unusedSimpArgs false
theorem Kd.C_empty (A : Option Addr) (w : World) : Kd.C (Kd.int .u8) w A 0 [] := ⟨rfl, by omega, fun h => absurd h (by omega)⟩
def nextL (l : List Int) : Int × List Int × Int :=
  if l.length < 16 then (0, [], 0) else if valN (l.take 4) > 65536 ∨ valN (l.take 4) > l.length - 16 then (0, [], 0)
  else if crcN (l.take 12 ++ (l.drop 16).take (valN (l.take 4))) ≠ valN ((l.drop 12).take 4) then (0, [], 0)
  else (((valN ((l.take 12).drop 4) : Nat) : Int), (l.drop 16).take (valN (l.take 4)), ((16 + valN (l.take 4) : Nat) : Int))
theorem C_sub {w : World} {ad : Addr} {l : List Int} (h : Kd.C (Kd.int .u8) w (some ad) l.length l) (i n : Nat) (hi : i + n ≤ l.length) : Kd.C (Kd.int .u8) w (some (ad.add i)) n ((l.drop i).take n) := by
  refine Kd.C_of_reads (d := (0 : Int)) (h1 := fun _ => rfl) ⟨by rw [List.length_take, List.length_drop]; omega, by have := Kd.C_max h; omega, fun hn => ⟨_, rfl, fun j hj => ?_⟩⟩
  obtain ⟨ad', e, hx⟩ := Kd.at_int h ((i + j : Nat) : Int) (by omega) (by omega)
  cases e
  rw [Int.toNat_natCast] at hx
  have e2 : (ad.add i).add j = ad.add (i + j) := Addr.add_add ad i j
  rw [e2, hx]
  congr 2
  simp only [rd, Int.toNat_natCast]
  rw [List.getD_eq_getElem?_getD, List.getD_eq_getElem?_getD, List.getElem?_take, if_pos hj, List.getElem?_drop]
theorem get_sub {w : World} {ad : Addr} {l : List Int} (h : Kd.C (Kd.int .u8) w (some ad) l.length l) (hall : ∀ x ∈ l, 0 ≤ x ∧ x ≤ 255) (i n c : Nat) (hi : i + n ≤ l.length) (hn : n ≤ 8) (hc : n ≤ c) :
    Calls Try.prog 42 #[.slice (some (ad.add i)) n c] w fun e w' => e = .returned (.int .u64 ((valN ((l.drop i).take n) : Nat) : Int)) ∧ w = w' := by
  have hlen : ((l.drop i).take n).length = n := by rw [List.length_take, List.length_drop]; omega
  have hC := C_sub h i n hi
  have := get_any (some (ad.add i)) c ((l.drop i).take n) w (by rw [hlen]; exact hC) (by omega) (by omega) (fun x hx => hall x (List.mem_of_mem_drop (List.mem_of_mem_take hx)))
  rwa [hlen] at this
set_option maxHeartbeats 4000000 in
set_option maxRecDepth 100000 in
theorem next_any (A0 : Option Addr) (c0 : Nat) (l0 : List Int) (w : World) (hr0 : Kd.C (Kd.int .u8) w A0 l0.length l0) (hc0 : l0.length ≤ c0) (hl : l0.length ≤ 140737488351232) (hall : ∀ x ∈ l0, 0 ≤ x ∧ x ≤ 255) (h16 : 16 ≤ l0.length) :
    Calls Try.prog 26 #[.slice A0 l0.length c0] w fun e w' => ∃ v0_ : Value, e = .returned (.tuple #[.int .u64 (nextL l0).1, v0_, .int .i64 (nextL l0).2.2]) ∧ Kd.R (Kd.int .u8) 5 w' w.heap.size (fun _ => True) v0_ (nextL l0).2.1 ∧ Below w.heap.size w w' := by
  obtain ⟨ad, rfl, -⟩ := Kd.at_int hr0 0 (by omega) (by omega)
  have HR0 := Aside0.mk hr0
  have HALL := Aside0.mk hall
  have g4 := get_sub hr0 hall 0 4 c0 (by omega) (by omega) (by omega)
  have ea : ad.add 0 = ad := Addr.add_zero' ad
  rw [ea, List.drop_zero] at g4
  have G4 := Aside0.mk g4
  obtain ⟨L, hL⟩ : ∃ L, L = l0.length := ⟨_, rfl⟩
  have HL := Aside0.mk hL
  obtain ⟨v, hv⟩ : ∃ v, v = valN (l0.take 4) := ⟨_, rfl⟩
  rw [← hv] at G4
  have hvl : v < 4294967296 := by
    have := valN_lt (l0.take 4) (fun x hx => hall x (List.mem_of_mem_take hx))
    rw [← hv] at this
    have h2 : (l0.take 4).length ≤ 4 := by rw [List.length_take]; omega
    have h3 : 256 ^ (l0.take 4).length ≤ 256 ^ 4 := Nat.pow_le_pow_right (by omega) h2
    omega
  have HV := Aside0.mk hv
  rw [← hL] at hl hc0 h16 ⊢
  clear hr0 hall g4 ea hL hv
  by_cases hbad : v > 65536 ∨ v > L - 16
  · have hres : nextL l0 = (0, [], 0) := by unfold nextL; rw [if_neg (by rw [← HL.out]; omega), if_pos (by rw [← HV.out, ← HL.out]; exact hbad)]
    have HRES := Aside0.mk hres
    clear hres
    by_cases h1 : v > 65536
    · clear hbad
      go_enter Try.func26, Try.ntmps26
      go_wp2_with (go_at_call 42; refine (G4.out).mono ?_; rintro e w' ⟨rfl, rfl⟩)
      go_ret3
      rw [HRES.out]
      exact ⟨_, rfl, Kd.R_nil _ _ _ _ _, Below.refl _ _⟩
    · have h2 : L - 16 < v := by omega
      have h3 : (L : Int) - 16 < (v : Int) := by omega
      clear hbad
      go_enter Try.func26, Try.ntmps26
      go_wp2_with (go_at_call 42; refine (G4.out).mono ?_; rintro e w' ⟨rfl, rfl⟩)
      go_ret3
      rw [HRES.out]
      exact ⟨_, rfl, Kd.R_nil _ _ _ _ _, Below.refl _ _⟩
  · have h1 : v ≤ 65536 := by omega
    have h2 : (v : Int) ≤ (L : Int) - 16 := by omega
    have g12 := fun (W : World) (hW : Below w.heap.size w W) => get_sub (Kd.C_below HR0.out hW) HALL.out 12 4 (c0 - 12) (by rw [← HL.out]; omega) (by omega) (by omega)
    have g4b := fun (W : World) (hW : Below w.heap.size w W) => get_sub (Kd.C_below HR0.out hW) HALL.out 4 8 (c0 - 4) (by rw [← HL.out]; omega) (by omega) (by omega)
    have cf : Kd.C (Kd.int .u8) w (some (ad.add 0)) 12 ((l0.drop 0).take 12) := C_sub HR0.out 0 12 (by rw [← HL.out]; omega)
    rw [Addr.add_zero', List.drop_zero] at cf
    have cb : Kd.C (Kd.int .u8) w (some (ad.add 16)) v ((l0.drop 16).take v) := C_sub HR0.out 16 v (by rw [← HL.out]; omega)
    have lf : (l0.take 12).length = 12 := by rw [List.length_take, ← HL.out]; omega
    have lb : ((l0.drop 16).take v).length = v := by rw [List.length_take, List.length_drop, ← HL.out]; omega
    obtain ⟨B, hB⟩ : ∃ B, B = (l0.drop 16).take v := ⟨_, rfl⟩
    obtain ⟨F, hF⟩ : ∃ F, F = l0.take 12 := ⟨_, rfl⟩
    rw [← hB] at cb lb
    rw [← hF] at cf lf
    have hBB : ∀ x ∈ B, 0 ≤ x ∧ x ≤ 255 := by rw [hB]; exact fun x hx => HALL.out x (List.mem_of_mem_drop (List.mem_of_mem_take hx))
    have hFB : ∀ x ∈ F, 0 ≤ x ∧ x ≤ 255 := by rw [hF]; exact fun x hx => HALL.out x (List.mem_of_mem_take hx)
    have hsum : crc_sum.f [F, B] = some ((crcN (F ++ B) : Nat) : Int) := by
      unfold crc_sum.f
      rw [if_pos]
      · simp
      · intro r hr
        simp only [List.mem_cons, List.mem_nil_iff, or_false] at hr
        rcases hr with rfl | rfl
        · exact hFB
        · exact hBB
    have hcl : crcN (F ++ B) < 4294967296 := crcN_lt (by
      intro x hx
      rcases List.mem_append.1 hx with h | h
      · exact hFB x h
      · exact hBB x h)
    have hclone : bytes_Clone.f B = some B := by unfold bytes_Clone.f; rw [if_pos (by omega)]
    have hres : nextL l0 = if crcN (F ++ B) ≠ valN ((l0.drop 12).take 4) then (0, [], 0) else (((valN ((l0.drop 4).take 8) : Nat) : Int), B, ((16 + v : Nat) : Int)) := by
      unfold nextL
      rw [if_neg (by rw [← HL.out]; omega), if_neg (by rw [← HV.out, ← HL.out]; omega), ← HV.out, ← hB, ← hF]
      have : F.drop 4 = (l0.drop 4).take 8 := by rw [hF, List.drop_take]
      rw [this]
    obtain ⟨S, hS⟩ : ∃ S, S = crcN (F ++ B) := ⟨_, rfl⟩
    obtain ⟨G, hG⟩ : ∃ G, G = valN ((l0.drop 12).take 4) := ⟨_, rfl⟩
    rw [← hS] at hsum hcl hres
    rw [← hG] at g12 hres
    have hwS : IntKind.u64.wrap (S : Int) = (S : Int) := wraps_u64 _ (by omega) (by omega)
    have HSUM := Aside0.mk hsum
    have HCL := Aside0.mk hclone
    have LF := Aside0.mk lf
    have LB := Aside0.mk lb
    have CF := Aside0.mk cf
    have CB := Aside0.mk cb
    have e12 : ad.add 12 = ⟨ad.block, ad.off + 12, none⟩ := Addr.add_succ' ad 11
    have e4 : ad.add 4 = ⟨ad.block, ad.off + 4, none⟩ := Addr.add_succ' ad 3
    have e16 : ad.add 16 = ⟨ad.block, ad.off + 16, none⟩ := Addr.add_succ' ad 15
    rw [e12] at g12
    rw [e4] at g4b
    have G12 := Aside0.mk g12
    have G4B := Aside0.mk g4b
    have E16 := Aside0.mk e16
    clear hbad e12 e4 e16 g12 g4b cf cb lf lb hBB hFB hsum hclone hS hG hB hF
    by_cases hsg : S = G
    · rw [if_neg (by simp [hsg])] at hres
      have HRES := Aside0.mk hres
      subst hsg
      clear hres
      by_cases hz : v = 0
      · subst hz
        have B0 := Aside0.mk (List.eq_nil_of_length_eq_zero LB.out)
        have hc16 : (16 : Int) ≤ (c0 : Int) := by omega
        have hrows : ∀ W : World, Below w.heap.size w W → Kd.C (Kd.slice 5 (Kd.int .u8)) (W.alloc (.cells #[.slice (some ad) 12 c0, .slice (some ad) 0 0] 22)) (some ⟨W.heap.size, 0, none⟩) 2 [F, B] := by
          intro W hW
          have h := rows_new W [(some ad, c0, F), (some ad, 0, B)] (by
            intro x hx
            simp only [List.mem_cons, List.mem_nil_iff, or_false] at hx
            rcases hx with rfl | rfl
            · simp only [LF.out]; exact ⟨Kd.C_below CF.out hW, by omega⟩
            · simp only [LB.out]; exact ⟨by rw [B0.out]; exact Kd.C_empty (some ad) W, Nat.le_refl _⟩) (by simp)
          simpa only [List.map_cons, List.map_nil, LF.out, LB.out, List.length_cons, List.length_nil, Nat.zero_add, Nat.reduceAdd] using h
        have HROWS := Aside0.mk hrows
        clear hrows
        go_enter Try.func26, Try.ntmps26
        go_wp2_with (go_at_call 42; refine (G4.out).mono ?_; rintro e w' ⟨rfl, rfl⟩)
        have keepS : ∀ W W' : World, Aside0 (Below w.heap.size w W) → Below W.heap.size W W' → Aside0 (Below w.heap.size w W') := fun W W' h hb => ⟨below_step h.out hb⟩
        have hS0 : Aside0 (Below w.heap.size w w.drew) := ⟨below_drew1 (Below.refl _ _)⟩
        have hS1 : Aside0 (Below w.heap.size w (w.alloc (.cells #[.slice (some ad) 12 c0, .slice (some ad) 0 0] 22)).drew) := ⟨below_drew1 (below_alloc (Below.refl _ _) _)⟩
        have HR1 := Aside0.mk (Kd.C_drew (HROWS.out w (Below.refl _ _)))
        go_region_held3 (fun w' => Aside0 (Below w.heap.size w w')) (first | exact hS0 | exact hS1 | (refine keepS _ _ ?_ hb; first | exact hS1 | exact hS0 | assumption)) (first | (go_at_call 41; refine (crc_sum.calls _ 2 [F, B] _ _ HR1.out (Nat.le_refl _) HSUM.out).mono ?_; rintro e w' ⟨rfl, hb⟩) | (go_at_call 42; refine (G12.out _ (Aside0.out (by assumption))).mono ?_; rintro e w' ⟨rfl, rfl⟩))
        rename_i hSz
        have hcb : Kd.C (Kd.int .u8) w' (some ad) 0 B := by rw [B0.out]; exact Kd.C_empty (some ad) _
        have HCB := Aside0.mk hcb
        have HG4 := Aside0.mk (G4B.out _ hSz.out)
        have h43 := bytes_Clone.calls (some ad) 0 B B w' (by rw [LB.out]; exact HCB.out) (by rw [LB.out]; exact Nat.le_refl _) HCL.out
        rw [LB.out] at h43
        have H43 := Aside0.mk h43
        clear hcb h43
        go_wp2_with (first | (go_at_call 42; refine (HG4.out).mono ?_; rintro e w' ⟨rfl, rfl⟩) | (go_at_call 43; refine (H43.out).mono ?_))
        rintro e w6 ⟨v6, rfl, hv6, hb6⟩
        have HV6 := Aside0.mk (Kd.R_lower hv6 hSz.out.size)
        have HB6 := Aside0.mk (below_step hSz.out hb6)
        clear hv6 hb6
        obtain ⟨Ar, cr, rfl⟩ := R_form4 HV6.out LB.out
        go_wp2
        go_ret3
        rw [HRES.out]
        exact ⟨_, rfl, HV6.out, HB6.out⟩
      · have hvp : 0 < v := by omega
        clear hz
        have ev : 16 + v - 16 = v := by omega
        have hc16 : (16 : Int) ≤ (c0 : Int) := by omega
        have hrows : ∀ W : World, Below w.heap.size w W → Kd.C (Kd.slice 5 (Kd.int .u8)) (W.alloc (.cells #[.slice (some ad) 12 c0, .slice (some ⟨ad.block, ad.off + 16, none⟩) v v] 22)) (some ⟨W.heap.size, 0, none⟩) 2 [F, B] := by
          intro W hW
          have h := rows_new W [(some ad, c0, F), (some ⟨ad.block, ad.off + 16, none⟩, v, B)] (by
            intro x hx
            simp only [List.mem_cons, List.mem_nil_iff, or_false] at hx
            rcases hx with rfl | rfl
            · simp only [LF.out]; exact ⟨Kd.C_below CF.out hW, by omega⟩
            · simp only [LB.out]; exact ⟨by have := Kd.C_below CB.out hW; rwa [E16.out] at this, Nat.le_refl _⟩) (by simp)
          simpa only [List.map_cons, List.map_nil, LF.out, LB.out, List.length_cons, List.length_nil, Nat.zero_add, Nat.reduceAdd] using h
        have HROWS := Aside0.mk hrows
        clear hrows
        go_enter Try.func26, Try.ntmps26
        go_wp2_with (go_at_call 42; refine (G4.out).mono ?_; rintro e w' ⟨rfl, rfl⟩)
        have keepS : ∀ W W' : World, Aside0 (Below w.heap.size w W) → Below W.heap.size W W' → Aside0 (Below w.heap.size w W') := fun W W' h hb => ⟨below_step h.out hb⟩
        have hS0 : Aside0 (Below w.heap.size w w.drew) := ⟨below_drew1 (Below.refl _ _)⟩
        have hS1 : Aside0 (Below w.heap.size w (w.alloc (.cells #[.slice (some ad) 12 c0, .slice (some ⟨ad.block, ad.off + 16, none⟩) v v] 22)).drew) := ⟨below_drew1 (below_alloc (Below.refl _ _) _)⟩
        have HR1 := Aside0.mk (Kd.C_drew (HROWS.out w (Below.refl _ _)))
        go_region_held3 (fun w' => Aside0 (Below w.heap.size w w')) (first | exact hS0 | exact hS1 | (refine keepS _ _ ?_ hb; first | exact hS1 | exact hS0 | assumption)) (first | (go_at_call 41; refine (crc_sum.calls _ 2 [F, B] _ _ HR1.out (Nat.le_refl _) HSUM.out).mono ?_; rintro e w' ⟨rfl, hb⟩) | (go_at_call 42; refine (G12.out _ (Aside0.out (by assumption))).mono ?_; rintro e w' ⟨rfl, rfl⟩))
        rename_i hSz
        have hcb : Kd.C (Kd.int .u8) w' (some ⟨ad.block, ad.off + 16, none⟩) v B := by have := Kd.C_below CB.out hSz.out; rwa [E16.out] at this
        have HCB := Aside0.mk hcb
        have HG4 := Aside0.mk (G4B.out _ hSz.out)
        have h43 := bytes_Clone.calls (some ⟨ad.block, ad.off + 16, none⟩) v B B w' (by rw [LB.out]; exact HCB.out) (by rw [LB.out]; exact Nat.le_refl _) HCL.out
        rw [LB.out] at h43
        have H43 := Aside0.mk h43
        clear hcb h43
        go_wp2_with (first | (go_at_call 42; refine (HG4.out).mono ?_; rintro e w' ⟨rfl, rfl⟩) | (go_at_call 43; refine (H43.out).mono ?_))
        rintro e w6 ⟨v6, rfl, hv6, hb6⟩
        have HV6 := Aside0.mk (Kd.R_lower hv6 hSz.out.size)
        have HB6 := Aside0.mk (below_step hSz.out hb6)
        clear hv6 hb6
        obtain ⟨Ar, cr, rfl⟩ := R_form4 HV6.out LB.out
        go_wp2
        go_ret3
        rw [HRES.out]
        exact ⟨_, rfl, HV6.out, HB6.out⟩
    · rw [if_pos hsg] at hres
      have HRES := Aside0.mk hres
      have hq : (S == G) = false := beq_eq_false_iff_ne.2 hsg
      have hq2 : (S != G) = true := bne_iff_ne.2 hsg
      have hq3 : ((S : Int) == (G : Int)) = false := beq_eq_false_iff_ne.2 (by omega)
      have hq4 : ((S : Int) != (G : Int)) = true := bne_iff_ne.2 (by omega)
      clear hres hsg
      by_cases hz : v = 0
      · subst hz
        have B0 := Aside0.mk (List.eq_nil_of_length_eq_zero LB.out)
        have hc16 : (16 : Int) ≤ (c0 : Int) := by omega
        have hrows : ∀ W : World, Below w.heap.size w W → Kd.C (Kd.slice 5 (Kd.int .u8)) (W.alloc (.cells #[.slice (some ad) 12 c0, .slice (some ad) 0 0] 22)) (some ⟨W.heap.size, 0, none⟩) 2 [F, B] := by
          intro W hW
          have h := rows_new W [(some ad, c0, F), (some ad, 0, B)] (by
            intro x hx
            simp only [List.mem_cons, List.mem_nil_iff, or_false] at hx
            rcases hx with rfl | rfl
            · simp only [LF.out]; exact ⟨Kd.C_below CF.out hW, by omega⟩
            · simp only [LB.out]; exact ⟨by rw [B0.out]; exact Kd.C_empty (some ad) W, Nat.le_refl _⟩) (by simp)
          simpa only [List.map_cons, List.map_nil, LF.out, LB.out, List.length_cons, List.length_nil, Nat.zero_add, Nat.reduceAdd] using h
        have HROWS := Aside0.mk hrows
        clear hrows
        go_enter Try.func26, Try.ntmps26
        go_wp2_with (go_at_call 42; refine (G4.out).mono ?_; rintro e w' ⟨rfl, rfl⟩)
        have keepS : ∀ W W' : World, Aside0 (Below w.heap.size w W) → Below W.heap.size W W' → Aside0 (Below w.heap.size w W') := fun W W' h hb => ⟨below_step h.out hb⟩
        have hS0 : Aside0 (Below w.heap.size w w.drew) := ⟨below_drew1 (Below.refl _ _)⟩
        have hS1 : Aside0 (Below w.heap.size w (w.alloc (.cells #[.slice (some ad) 12 c0, .slice (some ad) 0 0] 22)).drew) := ⟨below_drew1 (below_alloc (Below.refl _ _) _)⟩
        have HR1 := Aside0.mk (Kd.C_drew (HROWS.out w (Below.refl _ _)))
        go_region_held3 (fun w' => Aside0 (Below w.heap.size w w')) (first | exact hS0 | exact hS1 | (refine keepS _ _ ?_ hb; first | exact hS1 | exact hS0 | assumption)) (first | (go_at_call 41; refine (crc_sum.calls _ 2 [F, B] _ _ HR1.out (Nat.le_refl _) HSUM.out).mono ?_; rintro e w' ⟨rfl, hb⟩) | (go_at_call 42; refine (G12.out _ (Aside0.out (by assumption))).mono ?_; rintro e w' ⟨rfl, rfl⟩))
        rename_i hSz
        go_wp2
        go_ret3
        rw [HRES.out]
        exact ⟨_, rfl, Kd.R_nil _ _ _ _ _, hSz.out⟩
      · have hvp : 0 < v := by omega
        clear hz
        have ev : 16 + v - 16 = v := by omega
        have hc16 : (16 : Int) ≤ (c0 : Int) := by omega
        have hrows : ∀ W : World, Below w.heap.size w W → Kd.C (Kd.slice 5 (Kd.int .u8)) (W.alloc (.cells #[.slice (some ad) 12 c0, .slice (some ⟨ad.block, ad.off + 16, none⟩) v v] 22)) (some ⟨W.heap.size, 0, none⟩) 2 [F, B] := by
          intro W hW
          have h := rows_new W [(some ad, c0, F), (some ⟨ad.block, ad.off + 16, none⟩, v, B)] (by
            intro x hx
            simp only [List.mem_cons, List.mem_nil_iff, or_false] at hx
            rcases hx with rfl | rfl
            · simp only [LF.out]; exact ⟨Kd.C_below CF.out hW, by omega⟩
            · simp only [LB.out]; exact ⟨by have := Kd.C_below CB.out hW; rwa [E16.out] at this, Nat.le_refl _⟩) (by simp)
          simpa only [List.map_cons, List.map_nil, LF.out, LB.out, List.length_cons, List.length_nil, Nat.zero_add, Nat.reduceAdd] using h
        have HROWS := Aside0.mk hrows
        clear hrows
        go_enter Try.func26, Try.ntmps26
        go_wp2_with (go_at_call 42; refine (G4.out).mono ?_; rintro e w' ⟨rfl, rfl⟩)
        have keepS : ∀ W W' : World, Aside0 (Below w.heap.size w W) → Below W.heap.size W W' → Aside0 (Below w.heap.size w W') := fun W W' h hb => ⟨below_step h.out hb⟩
        have hS0 : Aside0 (Below w.heap.size w w.drew) := ⟨below_drew1 (Below.refl _ _)⟩
        have hS1 : Aside0 (Below w.heap.size w (w.alloc (.cells #[.slice (some ad) 12 c0, .slice (some ⟨ad.block, ad.off + 16, none⟩) v v] 22)).drew) := ⟨below_drew1 (below_alloc (Below.refl _ _) _)⟩
        have HR1 := Aside0.mk (Kd.C_drew (HROWS.out w (Below.refl _ _)))
        go_region_held3 (fun w' => Aside0 (Below w.heap.size w w')) (first | exact hS0 | exact hS1 | (refine keepS _ _ ?_ hb; first | exact hS1 | exact hS0 | assumption)) (first | (go_at_call 41; refine (crc_sum.calls _ 2 [F, B] _ _ HR1.out (Nat.le_refl _) HSUM.out).mono ?_; rintro e w' ⟨rfl, hb⟩) | (go_at_call 42; refine (G12.out _ (Aside0.out (by assumption))).mono ?_; rintro e w' ⟨rfl, rfl⟩))
        rename_i hSz
        go_wp2
        go_ret3
        rw [HRES.out]
        exact ⟨_, rfl, Kd.R_nil _ _ _ _ _, hSz.out⟩
def crc_Next.f (l0 : List Int) : Option (Int × List Int × Int) := if l0.length ≤ 140737488351232 ∧ (∀ x ∈ l0, 0 ≤ x ∧ x ≤ 255) then some (nextL l0) else none
theorem crc_Next.calls (A0 : Option Addr) (c0 : Nat) (l0 : List Int) (r1 : Int) (r2 : List Int) (r3 : Int) (w : World) (hr0 : Kd.C (Kd.int .u8) w A0 l0.length l0) (hc0 : l0.length ≤ c0) (h : crc_Next.f l0 = some (r1, r2, r3)) :
    Calls Try.prog 26 #[.slice A0 l0.length c0] w fun e w' => ∃ v1_ : Value, e = .returned (.tuple #[.int .u64 r1, v1_, .int .i64 r3]) ∧ Kd.R (Kd.int .u8) 5 w' w.heap.size (fun _ => True) v1_ r2 ∧ Below w.heap.size w w' := by
  unfold crc_Next.f at h
  split at h
  · rename_i h2
    injection h with h
    by_cases h16 : 16 ≤ l0.length
    · have := next_any A0 c0 l0 w hr0 hc0 h2.1 h2.2 h16
      rw [h] at this
      exact this
    · have e : nextL l0 = (0, [], 0) := by unfold nextL; rw [if_pos (by omega)]
      rw [e] at h
      simp only [Prod.mk.injEq] at h
      obtain ⟨rfl, rfl, rfl⟩ := h
      have hm := Kd.C_max hr0
      go_enter Try.func26, Try.ntmps26
      go_wp2
      go_ret3
      exact ⟨_, rfl, Kd.R_nil _ _ _ _ _, Below.refl _ _⟩
  · cases h
end Go.Proofs.Ytmepclalglmleaa.E
