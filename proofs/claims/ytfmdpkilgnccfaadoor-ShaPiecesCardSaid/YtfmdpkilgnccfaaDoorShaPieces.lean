/- ShaPieces by hand: in whatever pieces bytes come, their sum is the same; the bytes stay as they are. -/
import Derived.Test.YtfmdpkilgnccfaaDoorRowsB
namespace Go.Proofs.YtfmdpkilgnccfaaDoor.Pure
open Go.RowKit Go.Proofs.YtfmdpkilgnccfaaDoorW.PrintWords Go.Proofs.YtfmdpkilgnccfaaDoorW.PrintLast Go.Proofs.YtfmdpkilgnccfaaDoorW.PrintMore Go.Proofs.YtfmdpkilgnccfaaDoor.Pr Go.Proofs.YtfmdpkilgnccfaaDoor.E
set_option linter.unusedVariables false
set_option linter.unusedSimpArgs false
attribute [local go_sem] opVal opUpon
set_option maxHeartbeats 8000000 in
set_option maxRecDepth 100000 in
theorem ShaPieces_at (W : World) (A : Option Addr) (c : Nat) (l : List Int) (hr : Kd.C (Kd.int .u8) W A l.length l) (hc : l.length ≤ c) (hb : ∀ x ∈ l, 0 ≤ x ∧ x ≤ 255) (hl : l.length ≤ 140737488351232)
    (a1 : Int) (w1 : (Lit.int .u16 a1).wf = true) (a2 : Int) (w2 : (Lit.int .u16 a2).wf = true) (hG : RootsIn W) :
    Calls Tryd.prog 4 #[.slice A l.length c, .int .u16 a1, .int .u16 a2] W fun e w' => e = .returned (.bool true) ∧ Below W.heap.size W w' := by
  have kn := fun (X : World) (hX : Below W.heap.size W X) => wicketmanlaw02_known.calls true X rfl (hG.below rfl hX)
  have KN := Aside0.mk kn
  have HR := Aside0.mk hr
  have h1 := wf_u16 w1
  have h2 := wf_u16 w2
  by_cases h300 : 300 < l.length
  · have h3 : (300 : Int) < (l.length : Int) := by omega
    clear kn hr hb hG hc w1 w2
    go_enter Tryd.func4, Tryd.ntmps4
    go_wp2_with (go_at_call 21; ((with_reducible refine (KN.out _ (Below.refl _ _)).mono ?_); rintro e w1 ⟨rfl, hb1⟩); have HB1 := Aside0.mk hb1; clear hb1)
    go_ret
    exact ⟨rfl, HB1.out⟩
  · have h3 : ¬ (300 : Int) < (l.length : Int) := by omega
    obtain ⟨L, hL⟩ : ∃ L, L = l.length := ⟨_, rfl⟩
    obtain ⟨x, hx⟩ : ∃ x : Nat, (x : Int) = Int.tmod a1 ((L : Int) + 1) := ⟨(Int.tmod a1 ((L : Int) + 1)).toNat, Int.toNat_of_nonneg (Int.tmod_nonneg _ h1.1)⟩
    have hxl : x ≤ L := by have := Int.tmod_lt_of_pos a1 (b := (L : Int) + 1) (by omega); omega
    obtain ⟨z, hz⟩ : ∃ z : Nat, (z : Int) = Int.tmod a2 ((L : Int) - (x : Int) + 1) := ⟨(Int.tmod a2 ((L : Int) - (x : Int) + 1)).toNat, Int.toNat_of_nonneg (Int.tmod_nonneg _ h2.1)⟩
    have hzl : x + z ≤ L := by have := Int.tmod_lt_of_pos a2 (b := (L : Int) - (x : Int) + 1) (by omega); omega
    have hx' : a1 % ((L : Int) + 1) = (x : Int) := by rw [hx, Int.tmod_eq_emod_of_nonneg h1.1]
    have hz' : a2 % ((L : Int) - (x : Int) + 1) = (z : Int) := by rw [hz, Int.tmod_eq_emod_of_nonneg h2.1]
    obtain ⟨y, hy⟩ : ∃ y, y = x + z := ⟨_, rfl⟩
    have hyi : (x : Int) + (z : Int) = (y : Int) := by omega
    obtain ⟨i0, hi0, hz0, hz1, hz2⟩ := info_parts info5b
    have s1 := cut_hi (P := Tryd.prog) 22 5 .i64 Tryd.underlying22 A L c (x : Int) (by omega) (by omega) (by omega) hi0 hz1
    have s2 := cut_mid (P := Tryd.prog) 22 5 .i64 .i64 Tryd.underlying22 hi0 1 hz1 A L c (x : Int) (y : Int) (by omega) (by omega) (by omega) (by omega)
    have s3 := cut_lo (P := Tryd.prog) 22 5 .i64 Tryd.underlying22 A L c (y : Int) (by omega) (by omega) (by omega) hi0 hz1
    rw [Int.toNat_natCast] at s1 s3
    rw [Int.toNat_natCast, Int.toNat_natCast] at s2
    obtain ⟨A2, hA2⟩ : ∃ A2, A2 = (if c = x then A else A.map (·.add (x * 1))) := ⟨_, rfl⟩
    obtain ⟨A3, hA3⟩ : ∃ A3, A3 = (if c = y then A else A.map (·.add (y * 1))) := ⟨_, rfl⟩
    rw [← hA2] at s2
    rw [← hA3] at s3
    -- the three pieces are read
    have e1 : (l.take x).length = x := by rw [List.length_take]; omega
    have e2 : ((l.take y).drop x).length = y - x := by rw [List.length_drop, List.length_take]; omega
    have e3 : (l.drop y).length = L - y := by rw [List.length_drop, hL]
    have r1 : ∀ X, Kd.C (Kd.int .u8) X A l.length l → Kd.C (Kd.int .u8) X A x (l.take x) := fun X h => by
      have := Kd.C_take h (m := x) (by omega)
      rwa [e1] at this
    have r2 : ∀ X, Kd.C (Kd.int .u8) X A l.length l → Kd.C (Kd.int .u8) X A2 (y - x) ((l.take y).drop x) := fun X h => by
      have := Kd.C_mid (lo := x) (hi := y) h (by omega) (by omega) hc
      rw [e2] at this
      rw [hA2]; exact this
    have r3 : ∀ X, Kd.C (Kd.int .u8) X A l.length l → Kd.C (Kd.int .u8) X A3 (L - y) (l.drop y) := fun X h => by
      have := Kd.C_drop h (m := y) (by omega) hc
      rw [e3] at this
      rw [hA3]; exact this
    have hflat : l.take x ++ ((l.take y).drop x ++ l.drop y) = l := by
      have h5 : l.take x = (l.take y).take x := by rw [List.take_take]; congr 1; omega
      rw [← List.append_assoc, h5, List.take_append_drop, List.take_append_drop]
    have hCL : ∀ X, Below W.heap.size W X → Kd.C (Kd.int .u8) X A L l := fun X h => by rw [hL]; exact Kd.C_below hr h
    have hsum := fun (X : World) (hX : Below W.heap.size W (X.alloc (.cells #[.slice A L c] 22))) => sum1 X A L c l (hCL _ hX) (by omega) (by omega) hb (hG.below rfl hX)
    have hsum3 := fun (X : World) (hX : Below W.heap.size W X) (v : Value) (hv : RowVal #[.slice A x c, .slice A2 (y - x) (c - x), .slice A3 (L - y) (c - y)] v X) =>
      sum3_of (shaL l) X A x c (l.take x) A2 (y - x) (c - x) ((l.take y).drop x) A3 (L - y) (c - y) (l.drop y) (r1 _ (Kd.C_below hr hX)) (by omega) (r2 _ (Kd.C_below hr hX)) (by omega) (r3 _ (Kd.C_below hr hX)) (by omega) l hflat rfl (by omega) hb (hG.below rfl hX) v hv
    have hsumn := fun (X : World) (hX : Below W.heap.size W X) (v : Value) (hv : RowVal #[.slice none 0 0, .slice A L c, .slice none 0 0] v X) =>
      sum3_of (shaL l) X none 0 0 [] A L c l none 0 0 [] (Kd.C_empty _ _) (Nat.le_refl _) (hCL _ hX) (by omega) (Kd.C_empty _ _) (Nat.le_refl _) l (by simp) rfl (by omega) hb (hG.below rfl hX) v hv
    have hstr := fun (X : World) (hX : Below W.heap.size W X) => Kd.C_string (P := Tryd.prog) (c := c) Tryd.underlying22 Tryd.underlying5 Tryd.underlying9 (Kd.C_below hr hX)
    rw [← hL] at hstr
    have hst0 := hstr W (Below.refl _ _)
    have hD32 : (shaL l).length = 32 := shaL_len l
    obtain ⟨D, hD⟩ : ∃ D, D = shaL l := ⟨_, rfl⟩
    simp only [← hD] at hsum hsum3 hsumn
    rw [← hD] at hD32
    clear hD
    have HSTR := Aside0.mk hstr
    have HSUM := Aside0.mk hsum
    have HSUM3 := Aside0.mk hsum3
    have HSUMN := Aside0.mk hsumn
    have hlen : (strOfNums D).size = 32 := by rw [strOfNums_size, hD32]
    have HLEN := Aside0.mk hlen
    have HLL := Aside0.mk hD32
    clear hD32
    rw [← hL] at h3 ⊢
    have HL := Aside0.mk hL
    have hc' : L ≤ c := by omega
    have hL3 : L ≤ 300 := by omega
    have hb1 : (x : Int) ≤ (L : Int) := by omega
    have hb2 : (y : Int) ≤ (L : Int) := by omega
    have hb3 : (x : Int) ≤ (y : Int) := by omega
    clear kn hr hb hG hc w1 w2 hx hz r1 r2 r3 e1 e2 e3 hflat hCL hsum hsum3 hsumn hstr hA2 hA3 hlen hL h300 hi0 hz0 hz1 hz2 hy hl
    go_enter Tryd.func4, Tryd.ntmps4
    go_wp2_with (go_at_call 22; ((with_reducible refine (HSUM.out _ ?hN2).mono ?_)))
    case hN2 => exact (Below.refl _ W).alloc (Nat.le_refl _) _
    rintro e w3 ⟨v3, rfl, hR3, hb3⟩
    obtain ⟨B3, d3, rfl, hl3, hC3⟩ := Kd.R_reads hR3
    rw [HLL.out] at hC3 ⊢
    have hst3 := Kd.C_string (P := Tryd.prog) (c := d3) Tryd.underlying22 Tryd.underlying5 Tryd.underlying9 hC3
    have HB3 := Aside0.mk (below_step ((Below.refl _ W).alloc (Nat.le_refl _) (.cells #[.slice A L c] 22)) hb3)
    clear hR3 hb3 hC3 hl3
    go_wp2
    have hd0 := HB3.out.drew
    have HD0 := Aside0.mk hd0
    clear hd0 hst0 hst3
    have hlen := HLEN.out
    refine wp_region_inv_ex (fun X => Below W.heap.size W X) (fun X Y => Below X.heap.size X Y) (BOf
      [some (.bool true), some (.bool true), some (.string (strOfNums D)), some (.slice A L c), some (.int .i64 (x : Int)), some (.slice A x c), some (.slice A L c), some (.int .i64 (x : Int)), some (.int .i64 (y : Int)), some (.slice A2 (y - x) (c - x)),
       some (.slice A L c), some (.int .i64 (y : Int)), some (.slice A3 (L - y) (c - y)), none, none, some (.string (strOfNums D)), some (.bool true), some (.bool true), some (.bool true), some (.string (strOfNums D)),
       some (.slice A L c), none, none, some (.string (strOfNums D)), some (.bool true), some (.bool true), some (.bool true), some (.string (strOfNums D)), some (.int .i64 32), some (.bool true),
       some (.bool true), some (.bool true), some (.slice A L c), some (.string (strOfNums l)), some (.string (strOfNums l)), some (.bool true), some (.bool true), some (.bool true)]
      [(13, RowVal #[.slice A x c, .slice A2 (y - x) (c - x), .slice A3 (L - y) (c - y)]), (14, SumVal D), (21, RowVal #[.slice none 0 0, .slice A L c, .slice none 0 0]), (22, SumVal D)])
      (by kernel_rfl) (by kernel_rfl) (by kernel_rfl) (fun X => Below.refl _ X) (BOf_below ?hsp) HD0.out ?all
    case hsp => simp [SumVal.sp, RowVal.sp]
    apply Exists.intro
    refine ⟨?hA, ?steps, ?fin⟩
    case hA =>
      simp only [lay, Act.put, List.setIfInBounds_toArray, List.set_cons_zero, List.set_cons_succ]
      exact rfl
    case fin =>
      intro us X hC hB
      have h37 : us 37 = .bool true := (hB 37 (by decide)).1
      rw [h37]
      go_wp2
      go_ret
      exact ⟨rfl, hC⟩
    case steps =>
      repeat' (first | exact Steps.nil | refine Steps.cons ?_ ?_)
      all_goals (intro us X F hC hd hF; simp only [Deps, BOf, pureAt, spAt] at hd hF)
      all_goals (try simp only [Nat.reduceAdd, Nat.reduceEqDiff, false_implies, true_implies, and_true, true_and] at hd hF)
      all_goals go_simp
      all_goals (first
        | exact hF _ _ hC (Below.refl _ _) rfl
        | exact hF _ _ (hC.alloc hC.size _) ((Below.refl _ _).alloc (Nat.le_refl _) _) (RowVal.new _ _)
        | (refine (KN.out _ hC).mono ?_; rintro e w' ⟨rfl, hb⟩; exact ⟨_, rfl, hF _ _ (below_step hC hb) hb rfl⟩)
        | (refine (HSUM3.out _ hC _ hd.1).mono ?_; rintro e w' ⟨v, rfl, hv, hb⟩; exact ⟨_, rfl, hF _ _ (below_step hC hb) hb hv⟩)
        | (refine (HSUMN.out _ hC _ hd.1).mono ?_; rintro e w' ⟨v, rfl, hv, hb⟩; exact ⟨_, rfl, hF _ _ (below_step hC hb) hb hv⟩)
        | (obtain ⟨⟨B, d, e, hC', hd'⟩, _⟩ := hd; rw [e]; have hs := Kd.C_string (P := Tryd.prog) (c := d) Tryd.underlying22 Tryd.underlying5 Tryd.underlying9 hC'; go_simp; exact hF _ _ hC (Below.refl _ _) rfl)
        | (have hs := HSTR.out X hC; go_simp; exact hF _ _ hC (Below.refl _ _) rfl))
end Go.Proofs.YtfmdpkilgnccfaaDoor.Pure
