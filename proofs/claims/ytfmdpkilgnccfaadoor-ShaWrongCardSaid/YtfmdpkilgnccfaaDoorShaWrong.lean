/- ShaWrong by hand: of other than 64 bytes a Block changes nothing; sums of rows of noughts of other lengths differ. -/
import Derived.Test.YtfmdpkilgnccfaaDoorRowsB
import Derived.Test.YtfmdpkilgnccfaaDoorShaZero
namespace Go.Proofs.YtfmdpkilgnccfaaDoor.Pure
open Go.RowKit Go.Proofs.YtfmdpkilgnccfaaDoorW.PrintWords Go.Proofs.YtfmdpkilgnccfaaDoorW.PrintLast Go.Proofs.YtfmdpkilgnccfaaDoorW.PrintMore Go.Proofs.YtfmdpkilgnccfaaDoor.Pr Go.Proofs.YtfmdpkilgnccfaaDoor.E
set_option linter.unusedVariables false
set_option linter.unusedSimpArgs false
attribute [local go_sem] opVal opUpon
/-- A new row of noughts; a new row of one such row. -/
def ZeroVal (x : Nat) (v : Value) (w : World) : Prop := ∃ g, v = .slice (some ⟨g, 0, none⟩) x x ∧ Kd.C (Kd.int .u8) w (some ⟨g, 0, none⟩) x (List.replicate x 0)
theorem ZeroVal.sp (x : Nat) : SpBelow (ZeroVal x) := fun v w w' h hb =>
  let ⟨g, e, hC⟩ := h
  ⟨g, e, Kd.C_below hC hb⟩
def ZRowVal (x : Nat) (v : Value) (w : World) : Prop := ∃ g, RowVal #[.slice (some ⟨g, 0, none⟩) x x] v w ∧ Kd.C (Kd.int .u8) w (some ⟨g, 0, none⟩) x (List.replicate x 0)
theorem ZRowVal.sp (x : Nat) : SpBelow (ZRowVal x) := fun v w w' h hb =>
  let ⟨g, e, hC⟩ := h
  ⟨g, e.below hb, Kd.C_below hC hb⟩
set_option maxHeartbeats 8000000 in
set_option maxRecDepth 100000 in
theorem ShaWrong_at (W : World) (s : H8) (hs : s.ok) (A : Option Addr) (c : Nat) (l : List Int) (hr : Kd.C (Kd.int .u8) W A l.length l) (hc : l.length ≤ c) (hb : ∀ x ∈ l, 0 ≤ x ∧ x ≤ 255) (hl : l.length ≤ 140737488351232)
    (a1 : Int) (w1 : (Lit.int .u16 a1).wf = true) (a2 : Int) (w2 : (Lit.int .u16 a2).wf = true) (hG : RootsIn W) :
    Calls Tryd.prog 7 #[.agg s.vals.toArray, .slice A l.length c, .int .u16 a1, .int .u16 a2] W fun e w' => e = .returned (.bool true) ∧ Below W.heap.size W w' := by
  have kn := fun (X : World) (hX : Below W.heap.size W X) => wicketmanlaw02_known.calls true X rfl (hG.below rfl hX)
  have KN := Aside0.mk kn
  have HR := Aside0.mk hr
  have h1 := wf_u16 w1
  have h2 := wf_u16 w2
  clear hs
  obtain ⟨x0, x1, x2, x3, x4, x5, x6, x7⟩ := s
  show Calls Tryd.prog 7 #[.agg #[.int .u32 (x0 : Int), .int .u32 (x1 : Int), .int .u32 (x2 : Int), .int .u32 (x3 : Int), .int .u32 (x4 : Int), .int .u32 (x5 : Int), .int .u32 (x6 : Int), .int .u32 (x7 : Int)], .slice A l.length c, .int .u16 a1, .int .u16 a2] W _
  by_cases h200 : 200 < l.length
  · have h3 : (200 : Int) < (l.length : Int) := by omega
    clear kn hr hb hG hc w1 w2
    go_enter Tryd.func7, Tryd.ntmps7
    go_wp2_with (go_at_call 21; ((with_reducible refine (KN.out _ ((Below.refl _ _).alloc (Nat.le_refl _) _)).mono ?_); rintro e w1 ⟨rfl, hb1⟩); have HB1 := Aside0.mk (below_step ((Below.refl _ _).alloc (Nat.le_refl _) _) hb1); clear hb1)
    go_ret
    exact ⟨rfl, HB1.out⟩
  · have h3 : ¬ (200 : Int) < (l.length : Int) := by omega
    obtain ⟨x, hx⟩ : ∃ x : Nat, (x : Int) = a1 % 300 := ⟨(a1 % 300).toNat, by omega⟩
    obtain ⟨y, hy⟩ : ∃ y : Nat, (y : Int) = a2 % 300 := ⟨(a2 % 300).toNat, by omega⟩
    have hx3 : x < 300 := by omega
    have hy3 : y < 300 := by omega
    obtain ⟨L, hL⟩ : ∃ L, L = l.length := ⟨_, rfl⟩
    rw [← hL] at h3 ⊢
    obtain ⟨Dx, hDx⟩ : ∃ D, D = shaL (List.replicate x 0) := ⟨_, rfl⟩
    obtain ⟨Dy, hDy⟩ : ∃ D, D = shaL (List.replicate y 0) := ⟨_, rfl⟩
    obtain ⟨b0, hb0⟩ : ∃ b : Bool, b = decide (x = y) := ⟨_, rfl⟩
    have hxy : ((x : Int) == (y : Int)) = b0 := by
      rw [hb0]
      by_cases h : x = y
      · subst h; simp
      · rw [decide_eq_false h]; exact beq_eq_false_iff_ne.2 (by omega)
    have hst : ((strOfNums Dx).toList == (strOfNums Dy).toList) = b0 := by
      rw [hb0]
      by_cases h : x = y
      · subst h; rw [hDx, hDy]; simp
      · rw [decide_eq_false h, hDx, hDy]
        exact strOfNums_ne (shaL_bytes _) (shaL_bytes _) (fun e => h (zeros_sum hx3 hy3 e))
    have hzsum : ∀ (z : Nat), z < 300 → ∀ (D : List Int), D = shaL (List.replicate z 0) → ∀ (X : World), Below W.heap.size W X → ∀ v, ZRowVal z v X → Calls Tryd.prog 22 #[v] X fun e w' => ∃ v, e = .returned v ∧ SumVal D v w' ∧ Below X.heap.size X w' := by
      rintro z hz D rfl X hX v ⟨g, hv, hC⟩
      exact sum1_of _ X (some ⟨g, 0, none⟩) z z (List.replicate z 0) hC (Nat.le_refl _) rfl (by rw [List.length_replicate]; omega) (fun q hq => by rw [List.eq_of_mem_replicate hq]; omega) (hG.below rfl hX) v hv
    have HZX := Aside0.mk (hzsum x hx3 Dx hDx)
    have HZY := Aside0.mk (hzsum y hy3 Dy hDy)
    have HX3 := Aside0.mk hx3
    have HY3 := Aside0.mk hy3
    have hblk : l.length ≠ 64 → ∀ (X : World), Below W.heap.size W X → Calls Tryd.prog 26 #[.agg (H8.mk x0 x1 x2 x3 x4 x5 x6 x7).vals.toArray, .slice A l.length c] X fun e w' => e = .returned (.agg (H8.mk x0 x1 x2 x3 x4 x5 x6 x7).vals.toArray) ∧ Below X.heap.size X w' := fun hne X hX => block_odd _ A c l X (Kd.C_below hr hX) hne
    rw [← hL] at hblk
    have hx' : a1 % 300 = (x : Int) := hx.symm
    have hy' : a2 % 300 = (y : Int) := hy.symm
    have hmx := print_make (P := Tryd.prog) 22 5 .u8 1 Tryd.underlying22 info5b (by decide) x (by omega)
    have hmy := print_make (P := Tryd.prog) 22 5 .u8 1 Tryd.underlying22 info5b (by decide) y (by omega)
    clear kn hr hb hG hc w1 w2 hL hx hy hDx hDy hb0 hzsum
    by_cases h64 : L = 64
    · have hc64 : ((L : Int) == 64) = true := by rw [h64]; rfl
      clear h64 hblk
      go_enter Tryd.func7, Tryd.ntmps7
      go_wp2
      refine wp_region_inv_ex (fun X => Below W.heap.size W X ∧ X.heap[W.heap.size]? = some (.cells (H8.mk x0 x1 x2 x3 x4 x5 x6 x7).vals.toArray 25 (0, 0))) (fun X Y => Below X.heap.size X Y) (BOf
              [some (.bool true), some (.bool true), some (.slice A L c), some (.int .i64 (L : Int)), some (.bool true), some (.bool true), some undef, some undef, some undef, some undef, some undef, some (.bool true), some (.bool true), some (.bool true), some (.int .i64 (x : Int)), none, none, none, some (.string (strOfNums Dx)), some (.int .i64 (y : Int)), none, none, none, some (.string (strOfNums Dy)), some (.bool b0), some (.int .i64 (x : Int)), some (.int .i64 (y : Int)), some (.bool b0), some (.bool true), some (.bool true), some (.bool true)]
              [(15, ZeroVal x), (16, ZRowVal x), (17, SumVal Dx), (20, ZeroVal y), (21, ZRowVal y), (22, SumVal Dy)])
        (by kernel_rfl) (by kernel_rfl) (by kernel_rfl) (fun X => Below.refl _ X) (BOf_below ?hsp0) ?hC00 ?all0
      case hsp0 => simp [SumVal.sp, ZeroVal.sp, ZRowVal.sp]
      case hC00 => exact ⟨((Below.refl _ W).alloc (Nat.le_refl _) _).drew, heap_alloc_new W _⟩
      apply Exists.intro
      refine ⟨?hA0, ?steps0, ?fin0⟩
      case hA0 =>
        simp only [lay, Act.put, List.setIfInBounds_toArray, List.set_cons_zero, List.set_cons_succ]
        exact rfl
      case fin0 =>
        intro us X hC hB
        have h30 : us 30 = .bool true := (hB 30 (by decide)).1
        rw [h30]
        go_wp2
        go_ret
        exact ⟨rfl, hC.1⟩
      case steps0 =>
        repeat' (first | exact Steps.nil | refine Steps.cons ?_ ?_)
        all_goals (intro us X F hC hd hF; simp only [Deps, BOf, pureAt, spAt] at hd hF)
        all_goals (try simp only [Nat.reduceAdd, Nat.reduceEqDiff, false_implies, true_implies, and_true, true_and] at hd hF)
        all_goals (try (first
          | (refine Exists.elim (show ZeroVal x _ _ from hd.1) ?_; rintro g ⟨e, hCg⟩)
          | (refine Exists.elim (show ZeroVal y _ _ from hd.1) ?_; rintro g ⟨e, hCg⟩)
          | (refine Exists.elim (show SumVal Dx _ _ from hd.1) ?_; rintro B ⟨d, e, hCg, hdg⟩; have hs := Kd.C_string (P := Tryd.prog) (c := d) Tryd.underlying22 Tryd.underlying5 Tryd.underlying9 hCg)
          | (refine Exists.elim (show SumVal Dy _ _ from hd.1) ?_; rintro B ⟨d, e, hCg, hdg⟩; have hs := Kd.C_string (P := Tryd.prog) (c := d) Tryd.underlying22 Tryd.underlying5 Tryd.underlying9 hCg)))
        all_goals (have h8e := eq8 (x0 : Int) (x1 : Int) (x2 : Int) (x3 : Int) (x4 : Int) (x5 : Int) (x6 : Int) (x7 : Int))
        all_goals (try obtain ⟨q0, q1, q2, q3, q4, q5, q6, q7⟩ := cell8 hC.2)
        all_goals go_simp
        all_goals (first
          | exact hF _ _ ⟨hC.1.alloc hC.1.size _, (Below.heap_alloc _ _ _ (Array.getElem?_eq_some_iff.1 hC.2).1).trans hC.2⟩ ((Below.refl _ _).alloc (Nat.le_refl _) _) ⟨g, RowVal.new _ _, Kd.C_alloc hCg _⟩
          | exact hF _ _ ⟨hC.1.alloc hC.1.size _, (Below.heap_alloc _ _ _ (Array.getElem?_eq_some_iff.1 hC.2).1).trans hC.2⟩ ((Below.refl _ _).alloc (Nat.le_refl _) _) ⟨_, rfl, made_C _ _ (by omega)⟩
          | (refine (HZX.out _ hC.1 _ hd.1).mono ?_; rintro e w' ⟨v, rfl, hv, hb⟩; exact ⟨_, rfl, hF _ _ ⟨below_step hC.1 hb, (hb.block _ (Array.getElem?_eq_some_iff.1 hC.2).1).trans hC.2⟩ hb hv⟩)
          | (refine (HZY.out _ hC.1 _ hd.1).mono ?_; rintro e w' ⟨v, rfl, hv, hb⟩; exact ⟨_, rfl, hF _ _ ⟨below_step hC.1 hb, (hb.block _ (Array.getElem?_eq_some_iff.1 hC.2).1).trans hC.2⟩ hb hv⟩)
          | (refine (HBLK.out _ hC.1).mono ?_; rintro e w' ⟨rfl, hb⟩; exact ⟨_, rfl, hF _ _ ⟨below_step hC.1 hb, (hb.block _ (Array.getElem?_eq_some_iff.1 hC.2).1).trans hC.2⟩ hb rfl⟩)
          | exact hF _ _ hC (Below.refl _ _) rfl
          | (refine (KN.out _ hC.1).mono ?_; rintro e w' ⟨rfl, hb⟩; exact ⟨_, rfl, hF _ _ ⟨below_step hC.1 hb, (hb.block _ (Array.getElem?_eq_some_iff.1 hC.2).1).trans hC.2⟩ hb rfl⟩))
    · have hc64 : ((L : Int) == 64) = false := beq_eq_false_iff_ne.2 (by omega)
      have HBLK := Aside0.mk (hblk h64)
      clear hblk h64
      go_enter Tryd.func7, Tryd.ntmps7
      go_wp2
      refine wp_region_inv_ex (fun X => Below W.heap.size W X ∧ X.heap[W.heap.size]? = some (.cells (H8.mk x0 x1 x2 x3 x4 x5 x6 x7).vals.toArray 25 (0, 0))) (fun X Y => Below X.heap.size X Y) (BOf
              [some (.bool true), some (.bool true), some (.slice A L c), some (.int .i64 (L : Int)), some (.bool false), some (.bool false), some (.agg #[.int .u32 (x0 : Int), .int .u32 (x1 : Int), .int .u32 (x2 : Int), .int .u32 (x3 : Int), .int .u32 (x4 : Int), .int .u32 (x5 : Int), .int .u32 (x6 : Int), .int .u32 (x7 : Int)]), some (.slice A L c), some (.agg #[.int .u32 (x0 : Int), .int .u32 (x1 : Int), .int .u32 (x2 : Int), .int .u32 (x3 : Int), .int .u32 (x4 : Int), .int .u32 (x5 : Int), .int .u32 (x6 : Int), .int .u32 (x7 : Int)]), some (.agg #[.int .u32 (x0 : Int), .int .u32 (x1 : Int), .int .u32 (x2 : Int), .int .u32 (x3 : Int), .int .u32 (x4 : Int), .int .u32 (x5 : Int), .int .u32 (x6 : Int), .int .u32 (x7 : Int)]), some (.bool true), some (.bool true), some (.bool true), some (.bool true), some (.int .i64 (x : Int)), none, none, none, some (.string (strOfNums Dx)), some (.int .i64 (y : Int)), none, none, none, some (.string (strOfNums Dy)), some (.bool b0), some (.int .i64 (x : Int)), some (.int .i64 (y : Int)), some (.bool b0), some (.bool true), some (.bool true), some (.bool true)]
              [(15, ZeroVal x), (16, ZRowVal x), (17, SumVal Dx), (20, ZeroVal y), (21, ZRowVal y), (22, SumVal Dy)])
        (by kernel_rfl) (by kernel_rfl) (by kernel_rfl) (fun X => Below.refl _ X) (BOf_below ?hsp1) ?hC01 ?all1
      case hsp1 => simp [SumVal.sp, ZeroVal.sp, ZRowVal.sp]
      case hC01 => exact ⟨((Below.refl _ W).alloc (Nat.le_refl _) _).drew, heap_alloc_new W _⟩
      apply Exists.intro
      refine ⟨?hA1, ?steps1, ?fin1⟩
      case hA1 =>
        simp only [lay, Act.put, List.setIfInBounds_toArray, List.set_cons_zero, List.set_cons_succ]
        exact rfl
      case fin1 =>
        intro us X hC hB
        have h30 : us 30 = .bool true := (hB 30 (by decide)).1
        rw [h30]
        go_wp2
        go_ret
        exact ⟨rfl, hC.1⟩
      case steps1 =>
        repeat' (first | exact Steps.nil | refine Steps.cons ?_ ?_)
        all_goals (intro us X F hC hd hF; simp only [Deps, BOf, pureAt, spAt] at hd hF)
        all_goals (try simp only [Nat.reduceAdd, Nat.reduceEqDiff, false_implies, true_implies, and_true, true_and] at hd hF)
        all_goals (try (first
          | (refine Exists.elim (show ZeroVal x _ _ from hd.1) ?_; rintro g ⟨e, hCg⟩)
          | (refine Exists.elim (show ZeroVal y _ _ from hd.1) ?_; rintro g ⟨e, hCg⟩)
          | (refine Exists.elim (show SumVal Dx _ _ from hd.1) ?_; rintro B ⟨d, e, hCg, hdg⟩; have hs := Kd.C_string (P := Tryd.prog) (c := d) Tryd.underlying22 Tryd.underlying5 Tryd.underlying9 hCg)
          | (refine Exists.elim (show SumVal Dy _ _ from hd.1) ?_; rintro B ⟨d, e, hCg, hdg⟩; have hs := Kd.C_string (P := Tryd.prog) (c := d) Tryd.underlying22 Tryd.underlying5 Tryd.underlying9 hCg)))
        all_goals (have h8e := eq8 (x0 : Int) (x1 : Int) (x2 : Int) (x3 : Int) (x4 : Int) (x5 : Int) (x6 : Int) (x7 : Int))
        all_goals (try obtain ⟨q0, q1, q2, q3, q4, q5, q6, q7⟩ := cell8 hC.2)
        all_goals go_simp
        all_goals (first
          | exact hF _ _ ⟨hC.1.alloc hC.1.size _, (Below.heap_alloc _ _ _ (Array.getElem?_eq_some_iff.1 hC.2).1).trans hC.2⟩ ((Below.refl _ _).alloc (Nat.le_refl _) _) ⟨g, RowVal.new _ _, Kd.C_alloc hCg _⟩
          | exact hF _ _ ⟨hC.1.alloc hC.1.size _, (Below.heap_alloc _ _ _ (Array.getElem?_eq_some_iff.1 hC.2).1).trans hC.2⟩ ((Below.refl _ _).alloc (Nat.le_refl _) _) ⟨_, rfl, made_C _ _ (by omega)⟩
          | (refine (HZX.out _ hC.1 _ hd.1).mono ?_; rintro e w' ⟨v, rfl, hv, hb⟩; exact ⟨_, rfl, hF _ _ ⟨below_step hC.1 hb, (hb.block _ (Array.getElem?_eq_some_iff.1 hC.2).1).trans hC.2⟩ hb hv⟩)
          | (refine (HZY.out _ hC.1 _ hd.1).mono ?_; rintro e w' ⟨v, rfl, hv, hb⟩; exact ⟨_, rfl, hF _ _ ⟨below_step hC.1 hb, (hb.block _ (Array.getElem?_eq_some_iff.1 hC.2).1).trans hC.2⟩ hb hv⟩)
          | (refine (HBLK.out _ hC.1).mono ?_; rintro e w' ⟨rfl, hb⟩; exact ⟨_, rfl, hF _ _ ⟨below_step hC.1 hb, (hb.block _ (Array.getElem?_eq_some_iff.1 hC.2).1).trans hC.2⟩ hb rfl⟩)
          | exact hF _ _ hC (Below.refl _ _) rfl
          | (refine (KN.out _ hC.1).mono ?_; rintro e w' ⟨rfl, hb⟩; exact ⟨_, rfl, hF _ _ ⟨below_step hC.1 hb, (hb.block _ (Array.getElem?_eq_some_iff.1 hC.2).1).trans hC.2⟩ hb rfl⟩))
end Go.Proofs.YtfmdpkilgnccfaaDoor.Pure
