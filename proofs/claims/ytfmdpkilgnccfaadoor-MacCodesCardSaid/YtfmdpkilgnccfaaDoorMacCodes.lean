/- MacCodes: Code, Equal, Steps, and a Maker by a key, of any keys and messages, are what the chapter says. -/
import Derived.Test.YtfmdpkilgnccfaaDoorMacL
import Derived.Test.YtfmdpkilgnccfaaDoorRefM
import Derived.Test.YtfmdpkilgnccfaaDoorF38
import Derived.Test.YtfmdpkilgnccfaaDoorWZeros
import Derived.Lib.MinMax
namespace Go.Proofs.YtfmdpkilgnccfaaDoor.Pure
open Go.RowKit Go.Proofs.YtfmdpkilgnccfaaDoorW.PrintWords Go.Proofs.YtfmdpkilgnccfaaDoorW.PrintLast Go.Proofs.YtfmdpkilgnccfaaDoorW.PrintMore Go.Proofs.YtfmdpkilgnccfaaDoor.Pr Go.Proofs.YtfmdpkilgnccfaaDoor.E
set_option linter.unusedVariables false
set_option linter.unusedSimpArgs false
attribute [local go_sem] opVal opUpon
theorem zeros60 (w1 : World) : Kd.R (Kd.int .u8) 5 (w1.alloc (.cells (madeCells #[.int .u8 0] 60) 5)) w1.heap.size (fun _ => True) (.slice (some ⟨w1.heap.size, 0, none⟩) 60 60) (List.replicate 60 (0 : Int)) := by
  refine R_of_row (g := w1.heap.size) ?_ (Nat.le_refl _) (by simp) (by decide)
  have e : rowV (List.replicate 60 (0 : Int)) = madeCells #[.int .u8 0] 60 := (made_eq 60).symm
  rw [e]; exact heap_alloc_new w1 _
def StepsPost (n : Int) (X : World) (e : Ending) (w' : World) : Prop := e = .returned (.int .i64 n) ∧ Below X.heap.size X w'
theorem steps_some (a b : List Int) : mac_Steps.f a b = some (if a.length = b.length then (a.length : Int) else 0) := by
  unfold mac_Steps.f
  by_cases h : a.length = b.length
  · rw [if_pos h, if_pos (by omega)]
  · rw [if_neg h, if_neg (by omega)]
set_option maxHeartbeats 8000000 in
set_option maxRecDepth 100000 in
theorem MacCodes_short (W : World) (A0 : Option Addr) (c0 : Nat) (l0 : List Int) (hr0 : Kd.C (Kd.int .u8) W A0 l0.length l0) (hc0 : l0.length ≤ c0) (hb0 : ∀ x ∈ l0, 0 ≤ x ∧ x ≤ 255) (hl0 : l0.length ≤ 140737488351232) (A1 : Option Addr) (c1 : Nat) (l1 : List Int) (hr1 : Kd.C (Kd.int .u8) W A1 l1.length l1) (hc1 : l1.length ≤ c1) (hb1 : ∀ x ∈ l1, 0 ≤ x ∧ x ≤ 255) (hl1 : l1.length ≤ 140737488351232) (A2 : Option Addr) (c2 : Nat) (l2 : List Int) (hr2 : Kd.C (Kd.int .u8) W A2 l2.length l2) (hc2 : l2.length ≤ c2) (hb2 : ∀ x ∈ l2, 0 ≤ x ∧ x ≤ 255) (hl2 : l2.length ≤ 140737488351232) (hG : RootsIn W) (hsum : l0.length + l1.length + l2.length ≤ 300) :
    Calls Tryd.prog 16 #[.slice A0 l0.length c0, .slice A1 l1.length c1, .slice A2 l2.length c2, .bool false] W fun e w' => e = .returned (.bool true) ∧ Below W.heap.size W w' := by
  have KN := Aside0.mk (fun (X : World) (hX : Below W.heap.size W X) => known3 X (hG.below rfl hX))
  have gsum : ¬ (300 : Int) < (l0.length : Int) + (l1.length : Int) + (l2.length : Int) := by omega
  have gsum2 : decide ((300 : Int) < (l0.length : Int) + (l1.length : Int) + (l2.length : Int)) = false := decide_eq_false gsum
  have HR0 := Aside0.mk hr0
  have HR1 := Aside0.mk hr1
  have HR2 := Aside0.mk hr2
  have HB0 := Aside0.mk hb0
  have HB1 := Aside0.mk hb1
  have HB2 := Aside0.mk hb2
  have HG := Aside0.mk hG
  have m0 : l0.length ≤ 300 := by omega
  have m1 : l1.length ≤ 300 := by omega
  have m2 : l2.length ≤ 300 := by omega
  have q1 := rNilM
  have q2 := rNilP
  have q3 := rMetM
  have q4 := rMetP
  clear hr0 hr1 hr2 hb0 hb1 hb2 hG
  go_enter Tryd.func16, Tryd.ntmps16
  go_wp2_with (go_at_call 29; ((with_reducible refine (KN.out _ (Below.refl _ _)).mono ?_); rintro e w1 ⟨rfl, hb1⟩); have HW1 := Aside0.mk hb1; clear hb1)
  obtain ⟨kL, hkL⟩ : ∃ kL, kL = l0 := ⟨_, rfl⟩
  have hkl : kL.length ≤ 400 := by rw [hkL]; omega
  obtain ⟨BK, hBK⟩ : ∃ BK, BK = A0 := ⟨_, rfl⟩
  obtain ⟨dK, hdK0⟩ : ∃ dK, dK = c0 := ⟨_, rfl⟩
  have hdK : kL.length ≤ dK := by rw [hkL, hdK0]; exact hc0
  have HKB : Aside0 (∀ x ∈ kL, 0 ≤ x ∧ x ≤ 255) := ⟨by rw [hkL]; exact HB0.out⟩
  have HWK := HW1
  have HCK : Aside0 (Kd.C (Kd.int .u8) w1 BK kL.length kL) := ⟨by rw [hBK, hkL]; exact Kd.C_below HR0.out HW1.out⟩
  subst hkL hBK hdK0
  have hrc : Calls Tryd.prog 35 #[.slice BK kL.length dK, .slice A1 l1.length c1] w1 (RowPost (codeL kL l1) w1) := rcode_any BK dK kL A1 c1 l1 w1 HCK.out hdK HKB.out (by omega) (Kd.C_below HR1.out HWK.out) hc1 HB1.out (by omega)
  obtain ⟨K, hK⟩ : ∃ K, K = codeL kL l1 := ⟨_, rfl⟩
  have hK32 : K.length = 32 := by rw [hK]; exact codeL_len _ _
  have hKb : ∀ x ∈ K, 0 ≤ x ∧ x ≤ 255 := by rw [hK]; exact codeL_bytes _ _
  rw [← hK] at hrc
  have HRC := Aside0.mk hrc
  have HK := Aside0.mk hK
  have HKL := Aside0.mk (And.intro hK32 hKb)
  clear hrc hK hK32 hKb
  go_wp2_with (go_at_call 35; ((with_reducible refine (HRC.out).mono ?_)))
  rintro e w3 ⟨v3, rfl, hR3, hb3⟩
  obtain ⟨Bc, dc, rfl, hdc, hCc⟩ := Kd.R_reads hR3
  have hre := real_any BK dK kL w3 (Kd.C_below HCK.out hb3) hdK (by omega)
  have HRE := Aside0.mk hre
  have HCc := Aside0.mk hCc
  have HW3 := Aside0.mk (below_step HWK.out hb3)
  have HB3X := Aside0.mk hb3
  clear hR3 hb3 hCc hre
  go_wp2_with (go_at_call 40; ((with_reducible refine (HRE.out).mono ?_)))
  rintro e w4 ⟨v4, rfl, hV4, hb4⟩
  obtain ⟨B4, d4, rfl, hd4, hC4⟩ := Kd.R_reads hV4
  have hW4 := below_step HW3.out hb4
  have hCc4 := Kd.C_below HCc.out hb4
  have hCk4 : Kd.C (Kd.int .u8) w4 BK kL.length kL := Kd.C_below HCK.out (below_step (HB3X.out) hb4)
  obtain ⟨q, hq⟩ : ∃ q : Bool, q = decide (K = l2) := ⟨_, rfl⟩
  have hqs : ((strOfNums l2).toList == (strOfNums K).toList) = q := by
    rw [hq]
    by_cases h : K = l2
    · rw [h, decide_eq_true rfl, beq_self_eq_true]
    · rw [decide_eq_false h]; exact strOfNums_ne HB2.out HKL.out.2 (fun e => h e.symm)
  obtain ⟨sm, hsm⟩ : ∃ s : Bool, s = decide (l1 = l2) := ⟨_, rfl⟩
  have hss : ((strOfNums l1).toList == (strOfNums l2).toList) = sm := by
    rw [hsm]
    by_cases h : l1 = l2
    · rw [h, decide_eq_true rfl, beq_self_eq_true]
    · rw [decide_eq_false h]; exact strOfNums_ne HB1.out HB2.out h
  have HCA : Aside0 (∀ X, Below w4.heap.size w4 X → Calls Tryd.prog 33 #[.slice BK kL.length dK, .slice A1 l1.length c1] X (RowBPost K X)) := ⟨fun X hX => by
    rw [HK.out]
    exact rowb_of (code_any BK dK kL A1 c1 l1 X (Kd.C_below hCk4 hX) hdK HKB.out (by omega) (Kd.C_below HR1.out (below_step hW4 hX)) hc1 HB1.out (by omega) (HG.out.below rfl (below_step hW4 hX)))⟩
  have HMA : Aside0 (∀ X, Below w4.heap.size w4 X → Calls Tryd.prog 87 #[.agg #[.slice B4 kL.length d4], .slice A1 l1.length c1] X (RowBPost K X)) := ⟨fun X hX => by
    rw [HK.out]
    exact rowb_of (mmake_any B4 d4 kL A1 c1 l1 X (Kd.C_below hC4 hX) hd4 HKB.out (by omega) (Kd.C_below HR1.out (below_step hW4 hX)) hc1 HB1.out (by omega) (HG.out.below rfl (below_step hW4 hX)))⟩
  have HP1 : Aside0 (∀ X, Below w4.heap.size w4 X → Calls Tryd.prog 88 #[.agg #[.slice B4 kL.length d4], .slice A1 l1.length c1, .slice Bc K.length dc] X (BoolPost true X)) := ⟨fun X hX => by
    have := mprove_any B4 d4 kL A1 c1 l1 Bc dc K X (Kd.C_below hC4 hX) hd4 HKB.out (by omega) (Kd.C_below HR1.out (below_step hW4 hX)) hc1 HB1.out (by omega) (Kd.C_below hCc4 hX) hdc HKL.out.2 (HG.out.below rfl (below_step hW4 hX))
    rwa [← HK.out, decide_eq_true rfl] at this⟩
  have HP2 : Aside0 (∀ X, Below w4.heap.size w4 X → Calls Tryd.prog 88 #[.agg #[.slice B4 kL.length d4], .slice A1 l1.length c1, .slice A2 l2.length c2] X (BoolPost q X)) := ⟨fun X hX => by
    have := mprove_any B4 d4 kL A1 c1 l1 A2 c2 l2 X (Kd.C_below hC4 hX) hd4 HKB.out (by omega) (Kd.C_below HR1.out (below_step hW4 hX)) hc1 HB1.out (by omega) (Kd.C_below HR2.out (below_step hW4 hX)) hc2 HB2.out (HG.out.below rfl (below_step hW4 hX))
    rwa [← HK.out, ← hq] at this⟩
  have HE1 : Aside0 (∀ X, Below w4.heap.size w4 X → Calls Tryd.prog 39 #[.slice A1 l1.length c1, .slice A2 l2.length c2] X (BoolPost sm X)) := ⟨fun X hX =>
    (mac_Equal.calls (l1.length + 1) A1 c1 l1 A2 c2 l2 sm X (Kd.C_below HR1.out (below_step hW4 hX)) hc1 (Kd.C_below HR2.out (below_step hW4 hX)) hc2 (by rw [hsm]; exact equal_some l1 l2 HB1.out HB2.out (by omega))).mono (fun e w' ⟨he, hd⟩ => ⟨he, hd.below⟩)⟩
  have HE2 : Aside0 (∀ X, Below w4.heap.size w4 X → Calls Tryd.prog 39 #[.slice A1 l1.length c1, .slice A1 l1.length c1] X (BoolPost true X)) := ⟨fun X hX =>
    (mac_Equal.calls (l1.length + 1) A1 c1 l1 A1 c1 l1 true X (Kd.C_below HR1.out (below_step hW4 hX)) hc1 (Kd.C_below HR1.out (below_step hW4 hX)) hc1 (by rw [equal_some l1 l1 HB1.out HB1.out (by omega), decide_eq_true rfl])).mono (fun e w' ⟨he, hd⟩ => ⟨he, hd.below⟩)⟩
  obtain ⟨st, hst⟩ : ∃ st : Int, st = if l1.length = l2.length then (l1.length : Int) else 0 := ⟨_, rfl⟩
  have HE3 : Aside0 (∀ X, Below w4.heap.size w4 X → Calls Tryd.prog 38 #[.slice A1 l1.length c1, .slice A2 l2.length c2] X (StepsPost st X)) := ⟨fun X hX =>
    (mac_Steps.calls A1 c1 l1 A2 c2 l2 st X (Kd.C_below HR1.out (below_step hW4 hX)) hc1 (Kd.C_below HR2.out (below_step hW4 hX)) hc2 (by rw [hst]; exact steps_some l1 l2)).mono (fun e w' ⟨he, hd⟩ => ⟨he, hd.below⟩)⟩
  have HCC := Aside0.mk hCc4
  have HW4 := Aside0.mk hW4
  have HST := Aside0.mk hst
  clear hV4 hb4 hC4 hd4 hW4 hCc4 hCk4 hq hsm hst hdc hdK hkl
  obtain ⟨nM, hnM⟩ : ∃ n, n = l1.length := ⟨_, rfl⟩
  obtain ⟨nC, hnC⟩ : ∃ n, n = l2.length := ⟨_, rfl⟩
  obtain ⟨nK, hnK⟩ : ∃ n, n = K.length := ⟨_, rfl⟩
  obtain ⟨nL, hnL⟩ : ∃ n, n = kL.length := ⟨_, rfl⟩
  have HSR : Aside0 (∀ X, Below w4.heap.size w4 X → ((convert 22 9 (.slice Bc nK dc)).run Tryd.prog X = .ok (.string (strOfNums K)) X) ∧ ((convert 22 9 (.slice A1 nM c1)).run Tryd.prog X = .ok (.string (strOfNums l1)) X) ∧ ((convert 22 9 (.slice A2 nC c2)).run Tryd.prog X = .ok (.string (strOfNums l2)) X)) := ⟨fun X hX => by
    rw [hnM, hnC, hnK]
    exact ⟨Kd.C_string (P := Tryd.prog) (c := dc) Tryd.underlying22 Tryd.underlying5 Tryd.underlying9 (Kd.C_below HCC.out hX), Kd.C_string (P := Tryd.prog) (c := c1) Tryd.underlying22 Tryd.underlying5 Tryd.underlying9 (Kd.C_below HR1.out (below_step HW4.out hX)), Kd.C_string (P := Tryd.prog) (c := c2) Tryd.underlying22 Tryd.underlying5 Tryd.underlying9 (Kd.C_below HR2.out (below_step HW4.out hX))⟩⟩
  rw [← hnM, ← hnL] at HCA HMA HP1 HP2
  rw [← hnM] at HE1 HE2 HE3
  rw [← hnK] at HP1
  rw [← hnC] at HP2 HE1 HE3
  rw [← hnM, ← hnC] at HST
  rw [← hnL, ← hnK, ← hnM, ← hnC]
  clear hnM hnC hnK hnL gsum gsum2 m0 m1 m2 hl0 hl1 hl2 hc1 hc2 hc0 hsum
  go_wp2
  refine wp_region_inv_ex (fun X => Below w4.heap.size w4 X) (fun X Y => Below X.heap.size X Y) (BOf
      [some (.slice BK nL dK), some (.slice A1 nM c1), none, some (.string (strOfNums K)), some (.slice Bc nK dc), some (.string (strOfNums K)), some (.bool true), some (.bool true), some (.iface 82 (.agg #[.slice B4 nL d4])), some (.slice A1 nM c1), none, some (.string (strOfNums K)), some (.slice Bc nK dc), some (.string (strOfNums K)), some (.bool true), some (.bool true), some (.bool true), some (.iface 82 (.agg #[.slice B4 nL d4])), some (.slice A1 nM c1), some (.slice Bc nK dc), some (.bool true), some (.bool true), some (.bool true), some (.iface 82 (.agg #[.slice B4 nL d4])), some (.slice A1 nM c1), some (.slice A2 nC c2), some (.bool q), some (.slice A2 nC c2), some (.string (strOfNums l2)), some (.slice Bc nK dc), some (.string (strOfNums K)), some (.bool q), some (.bool true), some (.bool true), some (.bool true)]
      [(2, RowB K), (10, RowB K)])
    (by kernel_rfl) (by kernel_rfl) (by kernel_rfl) (fun X => Below.refl _ X) (BOf_below ?hspS) (Below.refl _ _).drew ?allS
  case hspS => simp [RowB.sp]
  apply Exists.intro
  refine ⟨?hAS, ?stepsS, ?finS⟩
  case hAS =>
    simp only [lay, Act.put, List.setIfInBounds_toArray, List.set_cons_zero, List.set_cons_succ, Nat.zero_add, Nat.reduceAdd]
    exact rfl
  case stepsS =>
    repeat' (first | exact Steps.nil | refine Steps.cons ?_ ?_)
    all_goals (intro us X F hC hd hF; simp only [Deps, BOf, pureAt, spAt] at hd hF)
    all_goals (try simp only [Nat.reduceAdd, Nat.reduceEqDiff, false_implies, true_implies, and_true, true_and] at hd hF)
    all_goals (obtain ⟨hsx1, hsx2, hsx3⟩ := HSR.out _ hC)
    all_goals ((try (first | (refine Exists.elim (show RowB K _ _ from hd) ?_; rintro B ⟨dd, e, hCg, hdg⟩; have hsB := Kd.C_string (P := Tryd.prog) (c := dd) Tryd.underlying22 Tryd.underlying5 Tryd.underlying9 hCg) | (refine Exists.elim (show RowB K _ _ from hd.1) ?_; rintro B ⟨dd, e, hCg, hdg⟩; have hsB := Kd.C_string (P := Tryd.prog) (c := dd) Tryd.underlying22 Tryd.underlying5 Tryd.underlying9 hCg) | (refine Exists.elim (show RowB K _ _ from hd.2) ?_; rintro B ⟨dd, e, hCg, hdg⟩; have hsB := Kd.C_string (P := Tryd.prog) (c := dd) Tryd.underlying22 Tryd.underlying5 Tryd.underlying9 hCg) | (refine Exists.elim (show RowB K _ _ from hd.2.1) ?_; rintro B ⟨dd, e, hCg, hdg⟩; have hsB := Kd.C_string (P := Tryd.prog) (c := dd) Tryd.underlying22 Tryd.underlying5 Tryd.underlying9 hCg) | (refine Exists.elim (show RowB K _ _ from hd.2.2) ?_; rintro B ⟨dd, e, hCg, hdg⟩; have hsB := Kd.C_string (P := Tryd.prog) (c := dd) Tryd.underlying22 Tryd.underlying5 Tryd.underlying9 hCg) | (refine Exists.elim (show RowB K _ _ from hd.2.2.1) ?_; rintro B ⟨dd, e, hCg, hdg⟩; have hsB := Kd.C_string (P := Tryd.prog) (c := dd) Tryd.underlying22 Tryd.underlying5 Tryd.underlying9 hCg))))
    all_goals go_simp
    all_goals (first
      | exact hF _ _ hC (Below.refl _ _) rfl
      | ((with_reducible refine (HCA.out _ hC).mono ?_); rintro e w' ⟨v, rfl, hv, hb⟩; exact ⟨_, rfl, hF _ _ (below_step hC hb) hb hv⟩)
      | ((with_reducible refine (HMA.out _ hC).mono ?_); rintro e w' ⟨v, rfl, hv, hb⟩; exact ⟨_, rfl, hF _ _ (below_step hC hb) hb hv⟩)
      | ((with_reducible refine (HP1.out _ hC).mono ?_); rintro e w' ⟨rfl, hb⟩; exact ⟨_, rfl, hF _ _ (below_step hC hb) hb rfl⟩)
      | ((with_reducible refine (HP2.out _ hC).mono ?_); rintro e w' ⟨rfl, hb⟩; exact ⟨_, rfl, hF _ _ (below_step hC hb) hb rfl⟩))
  case finS =>
    intro us X hC hB
    have hL : us 34 = .bool true := (hB 34 (by decide)).1
    rw [hL]
    have hXA : Below w4.heap.size w4 X := hC
    obtain ⟨-, hs1, hs2⟩ := HSR.out X hC
    have HBU := Aside0.mk hB
    clear hB hC hL
    by_cases hl : nM = nC
    · subst hl
      have hst : st = (nM : Int) := by rw [HST.out, if_pos rfl]
      subst hst
      go_wp2_with (first
        | (go_at_call 39; ((with_reducible refine (HE1.out _ hXA).mono ?_); rintro e wA ⟨rfl, hbA⟩); have hXB := below_step hXA hbA; clear hbA)
        | (go_at_call 39; ((with_reducible refine (HE2.out _ hXB).mono ?_); rintro e wB ⟨rfl, hbB⟩); have hXC := below_step hXB hbB; clear hbB)
        | (go_at_call 38; ((with_reducible refine (HE3.out _ hXC).mono ?_); rintro e wC ⟨rfl, hbC⟩); have hXD := below_step hXC hbC; clear hbC))
      go_ret
      exact ⟨rfl, below_step HW4.out hXD⟩
    · have hl1 : ¬ (nM : Int) = (nC : Int) := by omega
      have hl2 : ((nM : Int) == (nC : Int)) = false := by rw [beq_eq_false_iff_ne]; exact hl1
      have hst : st = 0 := by rw [HST.out, if_neg hl]
      subst hst
      go_wp2_with (first
        | (go_at_call 39; ((with_reducible refine (HE1.out _ hXA).mono ?_); rintro e wA ⟨rfl, hbA⟩); have hXB := below_step hXA hbA; clear hbA)
        | (go_at_call 39; ((with_reducible refine (HE2.out _ hXB).mono ?_); rintro e wB ⟨rfl, hbB⟩); have hXC := below_step hXB hbB; clear hbB)
        | (go_at_call 38; ((with_reducible refine (HE3.out _ hXC).mono ?_); rintro e wC ⟨rfl, hbC⟩); have hXD := below_step hXC hbC; clear hbC))
      go_ret
      exact ⟨rfl, below_step HW4.out hXD⟩
set_option maxHeartbeats 8000000 in
set_option maxRecDepth 100000 in
theorem MacCodes_long (W : World) (A0 : Option Addr) (c0 : Nat) (l0 : List Int) (hr0 : Kd.C (Kd.int .u8) W A0 l0.length l0) (hc0 : l0.length ≤ c0) (hb0 : ∀ x ∈ l0, 0 ≤ x ∧ x ≤ 255) (hl0 : l0.length ≤ 140737488351232) (A1 : Option Addr) (c1 : Nat) (l1 : List Int) (hr1 : Kd.C (Kd.int .u8) W A1 l1.length l1) (hc1 : l1.length ≤ c1) (hb1 : ∀ x ∈ l1, 0 ≤ x ∧ x ≤ 255) (hl1 : l1.length ≤ 140737488351232) (A2 : Option Addr) (c2 : Nat) (l2 : List Int) (hr2 : Kd.C (Kd.int .u8) W A2 l2.length l2) (hc2 : l2.length ≤ c2) (hb2 : ∀ x ∈ l2, 0 ≤ x ∧ x ≤ 255) (hl2 : l2.length ≤ 140737488351232) (hG : RootsIn W) (hsum : l0.length + l1.length + l2.length ≤ 300) :
    Calls Tryd.prog 16 #[.slice A0 l0.length c0, .slice A1 l1.length c1, .slice A2 l2.length c2, .bool true] W fun e w' => e = .returned (.bool true) ∧ Below W.heap.size W w' := by
  have KN := Aside0.mk (fun (X : World) (hX : Below W.heap.size W X) => known3 X (hG.below rfl hX))
  have gsum : ¬ (300 : Int) < (l0.length : Int) + (l1.length : Int) + (l2.length : Int) := by omega
  have gsum2 : decide ((300 : Int) < (l0.length : Int) + (l1.length : Int) + (l2.length : Int)) = false := decide_eq_false gsum
  have HR0 := Aside0.mk hr0
  have HR1 := Aside0.mk hr1
  have HR2 := Aside0.mk hr2
  have HB0 := Aside0.mk hb0
  have HB1 := Aside0.mk hb1
  have HB2 := Aside0.mk hb2
  have HG := Aside0.mk hG
  have m0 : l0.length ≤ 300 := by omega
  have m1 : l1.length ≤ 300 := by omega
  have m2 : l2.length ≤ 300 := by omega
  have q1 := rNilM
  have q2 := rNilP
  have q3 := rMetM
  have q4 := rMetP
  have hmk60 : ∀ W : World, (Instr.makeSlice 22 (.int .i64 60) (.int .i64 60)).run Tryd.prog W = .ok (.slice (some ⟨W.heap.size, 0, none⟩) 60 60) (W.alloc (.cells (madeCells #[.int .u8 0] 60) 5)) := print_make (P := Tryd.prog) 22 5 .u8 1 Tryd.underlying22 info5b (by decide) 60 (by decide)
  clear hr0 hr1 hr2 hb0 hb1 hb2 hG
  go_enter Tryd.func16, Tryd.ntmps16
  go_wp2_with (first
    | (go_at_call 29; ((with_reducible refine (KN.out _ (Below.refl _ _)).mono ?_); rintro e w1 ⟨rfl, hb1⟩); have HW1 := Aside0.mk hb1; have HZ := Aside0.mk (zeros60 w1); have HBA := Aside0.mk ((Below.refl w1.heap.size w1).alloc (Nat.le_refl _) (.cells (madeCells #[.int .u8 0] 60) 5)); have HC0 := Aside0.mk (Kd.C_below HR0.out (HW1.out.alloc HW1.out.size (.cells (madeCells #[.int .u8 0] 60) 5))); clear hb1)
    | (at_builtin; refine Kd.R_append_rows (Kd.int .u8) (w0 := w1) w1.heap.size rfl (.tmp 33) (.tmp 34) 22 5 (.int .u8 0) 1 rfl Tryd.underlying22 info5b rfl (by decide) (by omega) (.slice (some ⟨w1.heap.size, 0, none⟩) 60 60) (List.replicate 60 (0 : Int)) l0 _ _ _ (fun _ => True) (fun _ => False) rfl rfl HZ.out HC0.out (fun _ _ h => h) (fun _ h => h.elim) (fun _ _ => trivial) HBA.out HBA.out.size (by simp; omega) ?_))
  intro v2 w2 hR2 hb2 _ _
  obtain ⟨kL, hkL⟩ : ∃ kL, kL = List.replicate 60 (0 : Int) ++ l0 := ⟨_, rfl⟩
  have hR2 : Kd.R (Kd.int .u8) 5 w2 w1.heap.size (fun _ => True) v2 kL := by rw [hkL]; exact hR2
  have hkl : kL.length ≤ 400 := by rw [hkL, List.length_append, List.length_replicate]; omega
  have hkb : ∀ x ∈ kL, 0 ≤ x ∧ x ≤ 255 := by
    rw [hkL]; exact bytes_app (by intro x hx; rw [List.eq_of_mem_replicate hx]; omega) HB0.out
  obtain ⟨BK, dK, rfl, hdK, hCK⟩ := Kd.R_reads hR2
  have HWK := Aside0.mk (below_step HW1.out hb2)
  have HKB := Aside0.mk hkb
  have HCK := Aside0.mk hCK
  clear hkL hR2 hb2 hkb hCK HZ HBA HC0
  have hrc : Calls Tryd.prog 35 #[.slice BK kL.length dK, .slice A1 l1.length c1] w2 (RowPost (codeL kL l1) w2) := rcode_any BK dK kL A1 c1 l1 w2 HCK.out hdK HKB.out (by omega) (Kd.C_below HR1.out HWK.out) hc1 HB1.out (by omega)
  obtain ⟨K, hK⟩ : ∃ K, K = codeL kL l1 := ⟨_, rfl⟩
  have hK32 : K.length = 32 := by rw [hK]; exact codeL_len _ _
  have hKb : ∀ x ∈ K, 0 ≤ x ∧ x ≤ 255 := by rw [hK]; exact codeL_bytes _ _
  rw [← hK] at hrc
  have HRC := Aside0.mk hrc
  have HK := Aside0.mk hK
  have HKL := Aside0.mk (And.intro hK32 hKb)
  clear hrc hK hK32 hKb
  go_wp2_with (go_at_call 35; ((with_reducible refine (HRC.out).mono ?_)))
  rintro e w3 ⟨v3, rfl, hR3, hb3⟩
  obtain ⟨Bc, dc, rfl, hdc, hCc⟩ := Kd.R_reads hR3
  have hre := real_any BK dK kL w3 (Kd.C_below HCK.out hb3) hdK (by omega)
  have HRE := Aside0.mk hre
  have HCc := Aside0.mk hCc
  have HW3 := Aside0.mk (below_step HWK.out hb3)
  have HB3X := Aside0.mk hb3
  clear hR3 hb3 hCc hre
  go_wp2_with (go_at_call 40; ((with_reducible refine (HRE.out).mono ?_)))
  rintro e w4 ⟨v4, rfl, hV4, hb4⟩
  obtain ⟨B4, d4, rfl, hd4, hC4⟩ := Kd.R_reads hV4
  have hW4 := below_step HW3.out hb4
  have hCc4 := Kd.C_below HCc.out hb4
  have hCk4 : Kd.C (Kd.int .u8) w4 BK kL.length kL := Kd.C_below HCK.out (below_step (HB3X.out) hb4)
  obtain ⟨q, hq⟩ : ∃ q : Bool, q = decide (K = l2) := ⟨_, rfl⟩
  have hqs : ((strOfNums l2).toList == (strOfNums K).toList) = q := by
    rw [hq]
    by_cases h : K = l2
    · rw [h, decide_eq_true rfl, beq_self_eq_true]
    · rw [decide_eq_false h]; exact strOfNums_ne HB2.out HKL.out.2 (fun e => h e.symm)
  obtain ⟨sm, hsm⟩ : ∃ s : Bool, s = decide (l1 = l2) := ⟨_, rfl⟩
  have hss : ((strOfNums l1).toList == (strOfNums l2).toList) = sm := by
    rw [hsm]
    by_cases h : l1 = l2
    · rw [h, decide_eq_true rfl, beq_self_eq_true]
    · rw [decide_eq_false h]; exact strOfNums_ne HB1.out HB2.out h
  have HCA : Aside0 (∀ X, Below w4.heap.size w4 X → Calls Tryd.prog 33 #[.slice BK kL.length dK, .slice A1 l1.length c1] X (RowBPost K X)) := ⟨fun X hX => by
    rw [HK.out]
    exact rowb_of (code_any BK dK kL A1 c1 l1 X (Kd.C_below hCk4 hX) hdK HKB.out (by omega) (Kd.C_below HR1.out (below_step hW4 hX)) hc1 HB1.out (by omega) (HG.out.below rfl (below_step hW4 hX)))⟩
  have HMA : Aside0 (∀ X, Below w4.heap.size w4 X → Calls Tryd.prog 87 #[.agg #[.slice B4 kL.length d4], .slice A1 l1.length c1] X (RowBPost K X)) := ⟨fun X hX => by
    rw [HK.out]
    exact rowb_of (mmake_any B4 d4 kL A1 c1 l1 X (Kd.C_below hC4 hX) hd4 HKB.out (by omega) (Kd.C_below HR1.out (below_step hW4 hX)) hc1 HB1.out (by omega) (HG.out.below rfl (below_step hW4 hX)))⟩
  have HP1 : Aside0 (∀ X, Below w4.heap.size w4 X → Calls Tryd.prog 88 #[.agg #[.slice B4 kL.length d4], .slice A1 l1.length c1, .slice Bc K.length dc] X (BoolPost true X)) := ⟨fun X hX => by
    have := mprove_any B4 d4 kL A1 c1 l1 Bc dc K X (Kd.C_below hC4 hX) hd4 HKB.out (by omega) (Kd.C_below HR1.out (below_step hW4 hX)) hc1 HB1.out (by omega) (Kd.C_below hCc4 hX) hdc HKL.out.2 (HG.out.below rfl (below_step hW4 hX))
    rwa [← HK.out, decide_eq_true rfl] at this⟩
  have HP2 : Aside0 (∀ X, Below w4.heap.size w4 X → Calls Tryd.prog 88 #[.agg #[.slice B4 kL.length d4], .slice A1 l1.length c1, .slice A2 l2.length c2] X (BoolPost q X)) := ⟨fun X hX => by
    have := mprove_any B4 d4 kL A1 c1 l1 A2 c2 l2 X (Kd.C_below hC4 hX) hd4 HKB.out (by omega) (Kd.C_below HR1.out (below_step hW4 hX)) hc1 HB1.out (by omega) (Kd.C_below HR2.out (below_step hW4 hX)) hc2 HB2.out (HG.out.below rfl (below_step hW4 hX))
    rwa [← HK.out, ← hq] at this⟩
  have HE1 : Aside0 (∀ X, Below w4.heap.size w4 X → Calls Tryd.prog 39 #[.slice A1 l1.length c1, .slice A2 l2.length c2] X (BoolPost sm X)) := ⟨fun X hX =>
    (mac_Equal.calls (l1.length + 1) A1 c1 l1 A2 c2 l2 sm X (Kd.C_below HR1.out (below_step hW4 hX)) hc1 (Kd.C_below HR2.out (below_step hW4 hX)) hc2 (by rw [hsm]; exact equal_some l1 l2 HB1.out HB2.out (by omega))).mono (fun e w' ⟨he, hd⟩ => ⟨he, hd.below⟩)⟩
  have HE2 : Aside0 (∀ X, Below w4.heap.size w4 X → Calls Tryd.prog 39 #[.slice A1 l1.length c1, .slice A1 l1.length c1] X (BoolPost true X)) := ⟨fun X hX =>
    (mac_Equal.calls (l1.length + 1) A1 c1 l1 A1 c1 l1 true X (Kd.C_below HR1.out (below_step hW4 hX)) hc1 (Kd.C_below HR1.out (below_step hW4 hX)) hc1 (by rw [equal_some l1 l1 HB1.out HB1.out (by omega), decide_eq_true rfl])).mono (fun e w' ⟨he, hd⟩ => ⟨he, hd.below⟩)⟩
  obtain ⟨st, hst⟩ : ∃ st : Int, st = if l1.length = l2.length then (l1.length : Int) else 0 := ⟨_, rfl⟩
  have HE3 : Aside0 (∀ X, Below w4.heap.size w4 X → Calls Tryd.prog 38 #[.slice A1 l1.length c1, .slice A2 l2.length c2] X (StepsPost st X)) := ⟨fun X hX =>
    (mac_Steps.calls A1 c1 l1 A2 c2 l2 st X (Kd.C_below HR1.out (below_step hW4 hX)) hc1 (Kd.C_below HR2.out (below_step hW4 hX)) hc2 (by rw [hst]; exact steps_some l1 l2)).mono (fun e w' ⟨he, hd⟩ => ⟨he, hd.below⟩)⟩
  have HCC := Aside0.mk hCc4
  have HW4 := Aside0.mk hW4
  have HST := Aside0.mk hst
  clear hV4 hb4 hC4 hd4 hW4 hCc4 hCk4 hq hsm hst hdc hdK hkl
  obtain ⟨nM, hnM⟩ : ∃ n, n = l1.length := ⟨_, rfl⟩
  obtain ⟨nC, hnC⟩ : ∃ n, n = l2.length := ⟨_, rfl⟩
  obtain ⟨nK, hnK⟩ : ∃ n, n = K.length := ⟨_, rfl⟩
  obtain ⟨nL, hnL⟩ : ∃ n, n = kL.length := ⟨_, rfl⟩
  have HSR : Aside0 (∀ X, Below w4.heap.size w4 X → ((convert 22 9 (.slice Bc nK dc)).run Tryd.prog X = .ok (.string (strOfNums K)) X) ∧ ((convert 22 9 (.slice A1 nM c1)).run Tryd.prog X = .ok (.string (strOfNums l1)) X) ∧ ((convert 22 9 (.slice A2 nC c2)).run Tryd.prog X = .ok (.string (strOfNums l2)) X)) := ⟨fun X hX => by
    rw [hnM, hnC, hnK]
    exact ⟨Kd.C_string (P := Tryd.prog) (c := dc) Tryd.underlying22 Tryd.underlying5 Tryd.underlying9 (Kd.C_below HCC.out hX), Kd.C_string (P := Tryd.prog) (c := c1) Tryd.underlying22 Tryd.underlying5 Tryd.underlying9 (Kd.C_below HR1.out (below_step HW4.out hX)), Kd.C_string (P := Tryd.prog) (c := c2) Tryd.underlying22 Tryd.underlying5 Tryd.underlying9 (Kd.C_below HR2.out (below_step HW4.out hX))⟩⟩
  rw [← hnM, ← hnL] at HCA HMA HP1 HP2
  rw [← hnM] at HE1 HE2 HE3
  rw [← hnK] at HP1
  rw [← hnC] at HP2 HE1 HE3
  rw [← hnM, ← hnC] at HST
  rw [← hnL, ← hnK, ← hnM, ← hnC]
  clear hnM hnC hnK hnL gsum gsum2 m0 m1 m2 hl0 hl1 hl2 hc1 hc2 hc0 hsum
  go_wp2
  refine wp_region_inv_ex (fun X => Below w4.heap.size w4 X) (fun X Y => Below X.heap.size X Y) (BOf
      [some (.slice BK nL dK), some (.slice A1 nM c1), none, some (.string (strOfNums K)), some (.slice Bc nK dc), some (.string (strOfNums K)), some (.bool true), some (.bool true), some (.iface 82 (.agg #[.slice B4 nL d4])), some (.slice A1 nM c1), none, some (.string (strOfNums K)), some (.slice Bc nK dc), some (.string (strOfNums K)), some (.bool true), some (.bool true), some (.bool true), some (.iface 82 (.agg #[.slice B4 nL d4])), some (.slice A1 nM c1), some (.slice Bc nK dc), some (.bool true), some (.bool true), some (.bool true), some (.iface 82 (.agg #[.slice B4 nL d4])), some (.slice A1 nM c1), some (.slice A2 nC c2), some (.bool q), some (.slice A2 nC c2), some (.string (strOfNums l2)), some (.slice Bc nK dc), some (.string (strOfNums K)), some (.bool q), some (.bool true), some (.bool true), some (.bool true)]
      [(2, RowB K), (10, RowB K)])
    (by kernel_rfl) (by kernel_rfl) (by kernel_rfl) (fun X => Below.refl _ X) (BOf_below ?hspS) (Below.refl _ _).drew ?allS
  case hspS => simp [RowB.sp]
  apply Exists.intro
  refine ⟨?hAS, ?stepsS, ?finS⟩
  case hAS =>
    simp only [lay, Act.put, List.setIfInBounds_toArray, List.set_cons_zero, List.set_cons_succ, Nat.zero_add, Nat.reduceAdd]
    exact rfl
  case stepsS =>
    repeat' (first | exact Steps.nil | refine Steps.cons ?_ ?_)
    all_goals (intro us X F hC hd hF; simp only [Deps, BOf, pureAt, spAt] at hd hF)
    all_goals (try simp only [Nat.reduceAdd, Nat.reduceEqDiff, false_implies, true_implies, and_true, true_and] at hd hF)
    all_goals (obtain ⟨hsx1, hsx2, hsx3⟩ := HSR.out _ hC)
    all_goals ((try (first | (refine Exists.elim (show RowB K _ _ from hd) ?_; rintro B ⟨dd, e, hCg, hdg⟩; have hsB := Kd.C_string (P := Tryd.prog) (c := dd) Tryd.underlying22 Tryd.underlying5 Tryd.underlying9 hCg) | (refine Exists.elim (show RowB K _ _ from hd.1) ?_; rintro B ⟨dd, e, hCg, hdg⟩; have hsB := Kd.C_string (P := Tryd.prog) (c := dd) Tryd.underlying22 Tryd.underlying5 Tryd.underlying9 hCg) | (refine Exists.elim (show RowB K _ _ from hd.2) ?_; rintro B ⟨dd, e, hCg, hdg⟩; have hsB := Kd.C_string (P := Tryd.prog) (c := dd) Tryd.underlying22 Tryd.underlying5 Tryd.underlying9 hCg) | (refine Exists.elim (show RowB K _ _ from hd.2.1) ?_; rintro B ⟨dd, e, hCg, hdg⟩; have hsB := Kd.C_string (P := Tryd.prog) (c := dd) Tryd.underlying22 Tryd.underlying5 Tryd.underlying9 hCg) | (refine Exists.elim (show RowB K _ _ from hd.2.2) ?_; rintro B ⟨dd, e, hCg, hdg⟩; have hsB := Kd.C_string (P := Tryd.prog) (c := dd) Tryd.underlying22 Tryd.underlying5 Tryd.underlying9 hCg) | (refine Exists.elim (show RowB K _ _ from hd.2.2.1) ?_; rintro B ⟨dd, e, hCg, hdg⟩; have hsB := Kd.C_string (P := Tryd.prog) (c := dd) Tryd.underlying22 Tryd.underlying5 Tryd.underlying9 hCg))))
    all_goals go_simp
    all_goals (first
      | exact hF _ _ hC (Below.refl _ _) rfl
      | ((with_reducible refine (HCA.out _ hC).mono ?_); rintro e w' ⟨v, rfl, hv, hb⟩; exact ⟨_, rfl, hF _ _ (below_step hC hb) hb hv⟩)
      | ((with_reducible refine (HMA.out _ hC).mono ?_); rintro e w' ⟨v, rfl, hv, hb⟩; exact ⟨_, rfl, hF _ _ (below_step hC hb) hb hv⟩)
      | ((with_reducible refine (HP1.out _ hC).mono ?_); rintro e w' ⟨rfl, hb⟩; exact ⟨_, rfl, hF _ _ (below_step hC hb) hb rfl⟩)
      | ((with_reducible refine (HP2.out _ hC).mono ?_); rintro e w' ⟨rfl, hb⟩; exact ⟨_, rfl, hF _ _ (below_step hC hb) hb rfl⟩))
  case finS =>
    intro us X hC hB
    have hL : us 34 = .bool true := (hB 34 (by decide)).1
    rw [hL]
    have hXA : Below w4.heap.size w4 X := hC
    obtain ⟨-, hs1, hs2⟩ := HSR.out X hC
    have HBU := Aside0.mk hB
    clear hB hC hL
    by_cases hl : nM = nC
    · subst hl
      have hst : st = (nM : Int) := by rw [HST.out, if_pos rfl]
      subst hst
      go_wp2_with (first
        | (go_at_call 39; ((with_reducible refine (HE1.out _ hXA).mono ?_); rintro e wA ⟨rfl, hbA⟩); have hXB := below_step hXA hbA; clear hbA)
        | (go_at_call 39; ((with_reducible refine (HE2.out _ hXB).mono ?_); rintro e wB ⟨rfl, hbB⟩); have hXC := below_step hXB hbB; clear hbB)
        | (go_at_call 38; ((with_reducible refine (HE3.out _ hXC).mono ?_); rintro e wC ⟨rfl, hbC⟩); have hXD := below_step hXC hbC; clear hbC))
      go_ret
      exact ⟨rfl, below_step HW4.out hXD⟩
    · have hl1 : ¬ (nM : Int) = (nC : Int) := by omega
      have hl2 : ((nM : Int) == (nC : Int)) = false := by rw [beq_eq_false_iff_ne]; exact hl1
      have hst : st = 0 := by rw [HST.out, if_neg hl]
      subst hst
      go_wp2_with (first
        | (go_at_call 39; ((with_reducible refine (HE1.out _ hXA).mono ?_); rintro e wA ⟨rfl, hbA⟩); have hXB := below_step hXA hbA; clear hbA)
        | (go_at_call 39; ((with_reducible refine (HE2.out _ hXB).mono ?_); rintro e wB ⟨rfl, hbB⟩); have hXC := below_step hXB hbB; clear hbB)
        | (go_at_call 38; ((with_reducible refine (HE3.out _ hXC).mono ?_); rintro e wC ⟨rfl, hbC⟩); have hXD := below_step hXC hbC; clear hbC))
      go_ret
      exact ⟨rfl, below_step HW4.out hXD⟩
set_option maxHeartbeats 8000000 in
set_option maxRecDepth 100000 in
theorem MacCodes_at (W : World) (A0 : Option Addr) (c0 : Nat) (l0 : List Int) (hr0 : Kd.C (Kd.int .u8) W A0 l0.length l0) (hc0 : l0.length ≤ c0) (hb0 : ∀ x ∈ l0, 0 ≤ x ∧ x ≤ 255) (hl0 : l0.length ≤ 140737488351232) (A1 : Option Addr) (c1 : Nat) (l1 : List Int) (hr1 : Kd.C (Kd.int .u8) W A1 l1.length l1) (hc1 : l1.length ≤ c1) (hb1 : ∀ x ∈ l1, 0 ≤ x ∧ x ≤ 255) (hl1 : l1.length ≤ 140737488351232) (A2 : Option Addr) (c2 : Nat) (l2 : List Int) (hr2 : Kd.C (Kd.int .u8) W A2 l2.length l2) (hc2 : l2.length ≤ c2) (hb2 : ∀ x ∈ l2, 0 ≤ x ∧ x ≤ 255) (hl2 : l2.length ≤ 140737488351232) (b3 : Bool) (hG : RootsIn W) :
    Calls Tryd.prog 16 #[.slice A0 l0.length c0, .slice A1 l1.length c1, .slice A2 l2.length c2, .bool b3] W fun e w' => e = .returned (.bool true) ∧ Below W.heap.size W w' := by
  by_cases hsum : l0.length + l1.length + l2.length ≤ 300
  · cases b3 with
    | false => exact MacCodes_short W A0 c0 l0 hr0 hc0 hb0 hl0 A1 c1 l1 hr1 hc1 hb1 hl1 A2 c2 l2 hr2 hc2 hb2 hl2 hG hsum
    | true => exact MacCodes_long W A0 c0 l0 hr0 hc0 hb0 hl0 A1 c1 l1 hr1 hc1 hb1 hl1 A2 c2 l2 hr2 hc2 hb2 hl2 hG hsum
  have KN := Aside0.mk (fun (X : World) (hX : Below W.heap.size W X) => known3 X (hG.below rfl hX))
  have g1 : (300 : Int) < (l0.length : Int) + (l1.length : Int) + (l2.length : Int) := by omega
  have g2 : decide ((300 : Int) < (l0.length : Int) + (l1.length : Int) + (l2.length : Int)) = true := decide_eq_true g1
  clear hr0 hr1 hr2 hb0 hb1 hb2 hG hsum
  go_enter Tryd.func16, Tryd.ntmps16
  go_wp2_with (go_at_call 29; ((with_reducible refine (KN.out _ (Below.refl _ _)).mono ?_); rintro e w1 ⟨rfl, hb1⟩); have HB1 := Aside0.mk hb1; clear hb1)
  go_ret
  exact ⟨rfl, HB1.out⟩
end Go.Proofs.YtfmdpkilgnccfaaDoor.Pure
