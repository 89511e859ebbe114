/- MacKeys: a key of more than 64 bytes is its sum; noughts behind a shorter one change nothing. -/
import Derived.Test.YtfmdpkilgnccfaaDoorMacM
import Derived.Test.YtfmdpkilgnccfaaDoorRefM
import Derived.Test.YtfmdpkilgnccfaaDoorWZeros
import Derived.Lib.MinMax
namespace Go.Proofs.YtfmdpkilgnccfaaDoor.Pure
open Go.RowKit Go.Proofs.YtfmdpkilgnccfaaDoorW.PrintWords Go.Proofs.YtfmdpkilgnccfaaDoorW.PrintLast Go.Proofs.YtfmdpkilgnccfaaDoorW.PrintMore Go.Proofs.YtfmdpkilgnccfaaDoor.Pr Go.Proofs.YtfmdpkilgnccfaaDoor.E
set_option linter.unusedVariables false
set_option linter.unusedSimpArgs false
attribute [local go_sem] opVal opUpon
def RowBPost (P : List Int) (X : World) (e : Ending) (w' : World) : Prop := ∃ v, e = .returned v ∧ RowB P v w' ∧ Below X.heap.size X w'
theorem rowb_of {F : FuncId} {args : Array Value} {X : World} {P : List Int} (h : Calls Tryd.prog F args X fun e w' => ∃ v, e = .returned v ∧ Kd.R (Kd.int .u8) 5 w' X.heap.size (fun _ => True) v P ∧ Below X.heap.size X w') : Calls Tryd.prog F args X (RowBPost P X) :=
  h.mono fun e w' ⟨v, he, hv, hb⟩ => ⟨v, he, RowB.of_R hv, hb⟩
theorem codeL_sha (l m : List Int) (h : 64 < l.length) : codeL l m = codeL (shaL l) m := by
  have e1 : keyL l = shaL l := if_neg (by omega)
  have e2 : keyL (shaL l) = shaL l := if_pos (by rw [shaL_len]; decide)
  unfold codeL padK
  rw [e1, e2]
theorem getD_zeros (l : List Int) (z i : Nat) : (l ++ List.replicate z 0).getD i 0 = l.getD i 0 := by
  simp only [List.getD_eq_getElem?_getD]
  by_cases h : i < l.length
  · rw [List.getElem?_append_left h]
  · rw [List.getElem?_append_right (by omega), List.getElem?_eq_none (l := l) (by omega), List.getElem?_replicate]
    split <;> rfl
theorem padK_zeros (l : List Int) (z c : Nat) (h : l.length + z ≤ 64) : padK (l ++ List.replicate z 0) c = padK l c := by
  have e1 : keyL (l ++ List.replicate z 0) = l ++ List.replicate z 0 := if_pos (by rw [List.length_append, List.length_replicate]; exact h)
  have e2 : keyL l = l := if_pos (by omega)
  unfold padK
  rw [e1, e2]
  simp only [getD_zeros]
theorem codeL_zeros (l m : List Int) (z : Nat) (h : l.length + z ≤ 64) : codeL (l ++ List.replicate z 0) m = codeL l m := by
  unfold codeL
  rw [padK_zeros l z _ h, padK_zeros l z _ h]
theorem C_take {w : World} {A : Option Addr} {l : List Int} (h : Kd.C (Kd.int .u8) w A l.length l) (m : Nat) (hm : m ≤ l.length) : Kd.C (Kd.int .u8) w A m (l.take m) := by
  by_cases h0 : m = 0
  · subst h0; rw [List.take_zero]; exact Kd.C_empty _ _
  · obtain ⟨ad, rfl, -⟩ := Kd.at_int h 0 (by omega) (by omega)
    have := C_sub h 0 m (by omega)
    rw [List.drop_zero, Addr.add_zero'] at this
    exact this
set_option maxHeartbeats 8000000 in
set_option maxRecDepth 100000 in
theorem MacKeys_at (W : World) (A0 : Option Addr) (c0 : Nat) (l0 : List Int) (hr0 : Kd.C (Kd.int .u8) W A0 l0.length l0) (hc0 : l0.length ≤ c0) (hb0 : ∀ x ∈ l0, 0 ≤ x ∧ x ≤ 255) (hl0 : l0.length ≤ 140737488351232) (A1 : Option Addr) (c1 : Nat) (l1 : List Int) (hr1 : Kd.C (Kd.int .u8) W A1 l1.length l1) (hc1 : l1.length ≤ c1) (hb1 : ∀ x ∈ l1, 0 ≤ x ∧ x ≤ 255) (hl1 : l1.length ≤ 140737488351232) (a2 : Int) (w2 : (Lit.int .u8 a2).wf = true) (hG : RootsIn W) :
    Calls Tryd.prog 10 #[.slice A0 l0.length c0, .slice A1 l1.length c1, .int .u8 a2] W fun e w' => e = .returned (.bool true) ∧ Below W.heap.size W w' := by
  have h2 := wf_u8 w2
  have KN := Aside0.mk (fun (X : World) (hX : Below W.heap.size W X) => known3 X (hG.below rfl hX))
  have out : (150 < l0.length ∨ 100 < l1.length) → Calls Tryd.prog 10 #[.slice A0 l0.length c0, .slice A1 l1.length c1, .int .u8 a2] W fun e w' => e = .returned (.bool true) ∧ Below W.heap.size W w' := by
    intro hor
    clear hr0 hr1 hb0 hb1 hG w2
    rcases hor with ho | ho
    · have g1 : (150 : Int) < (l0.length : Int) := by omega
      have g2 : decide ((150 : Int) < (l0.length : Int)) = true := decide_eq_true g1
      go_enter Tryd.func10, Tryd.ntmps10
      go_wp2_with (go_at_call 29; ((with_reducible refine (KN.out _ (Below.refl _ _)).mono ?_); rintro e w1 ⟨rfl, hb1⟩); have HB1 := Aside0.mk hb1; clear hb1)
      go_ret
      exact ⟨rfl, HB1.out⟩
    · have g3 : (100 : Int) < (l1.length : Int) := by omega
      have g4 : decide ((100 : Int) < (l1.length : Int)) = true := decide_eq_true g3
      by_cases g : 150 < l0.length
      · have g1 : (150 : Int) < (l0.length : Int) := by omega
        have g2 : decide ((150 : Int) < (l0.length : Int)) = true := decide_eq_true g1
        go_enter Tryd.func10, Tryd.ntmps10
        go_wp2_with (go_at_call 29; ((with_reducible refine (KN.out _ (Below.refl _ _)).mono ?_); rintro e w1 ⟨rfl, hb1⟩); have HB1 := Aside0.mk hb1; clear hb1)
        go_ret
        exact ⟨rfl, HB1.out⟩
      · have g1 : ¬ (150 : Int) < (l0.length : Int) := by omega
        have g2 : decide ((150 : Int) < (l0.length : Int)) = false := decide_eq_false g1
        go_enter Tryd.func10, Tryd.ntmps10
        go_wp2_with (go_at_call 29; ((with_reducible refine (KN.out _ (Below.refl _ _)).mono ?_); rintro e w1 ⟨rfl, hb1⟩); have HB1 := Aside0.mk hb1; clear hb1)
        go_ret
        exact ⟨rfl, HB1.out⟩
  by_cases hor : 150 < l0.length ∨ 100 < l1.length
  · exact out hor
  clear out
  have g1 : ¬ (150 : Int) < (l0.length : Int) := by omega
  have g2 : decide ((150 : Int) < (l0.length : Int)) = false := decide_eq_false g1
  have g3 : ¬ (100 : Int) < (l1.length : Int) := by omega
  have g4 : decide ((100 : Int) < (l1.length : Int)) = false := decide_eq_false g3
  have n0 : l0.length ≤ 150 := by omega
  have n1 : l1.length ≤ 100 := by omega
  clear hor
  obtain ⟨z, hz⟩ : ∃ z : Nat, (z : Int) = a2 % 24 := ⟨(a2 % 24).toNat, by omega⟩
  have hz24 : z < 24 := by omega
  have e3 : a2 % 24 = (z : Int) := by omega
  obtain ⟨M, hM⟩ : ∃ M, M = l0.take (min l0.length 40) := ⟨_, rfl⟩
  have hMl : M.length = min l0.length 40 := by rw [hM, List.length_take]; omega
  have hm0 : M.length ≤ l0.length := by omega
  have hm4 : M.length ≤ 40 := by omega
  have hmc : M.length ≤ c0 := by omega
  have emin : min (l0.length : Int) (40 : Int) = (M.length : Int) := by omega
  have hbM : ∀ x ∈ M, 0 ≤ x ∧ x ≤ 255 := by rw [hM]; exact fun x hx => hb0 x (List.mem_of_mem_take hx)
  have HR0 := Aside0.mk hr0
  have HR1 := Aside0.mk hr1
  have HB0 := Aside0.mk hb0
  have HB1 := Aside0.mk hb1
  have HBM := Aside0.mk hbM
  have HG := Aside0.mk hG
  have HRM : Aside0 (∀ X, Below W.heap.size W X → Kd.C (Kd.int .u8) X A0 M.length M) := ⟨fun X hX => by
    have := Kd.C_below hr0 hX
    have h := C_take this M.length hm0
    rw [hMl, ← hM] at h
    rw [hMl]
    exact h⟩
  clear hr0 hr1 hb0 hb1 hG w2 hz hM hMl hbM
  go_enter Tryd.func10, Tryd.ntmps10
  go_wp2_with (at_builtin; refine Kd.R_append_rows (Kd.int .u8) (w0 := W) W.heap.size rfl (.tmp 19) (.tmp 20) 22 5 (.int .u8 0) 1 rfl Tryd.underlying22 info5b rfl (by decide) (by omega) (.slice none 0 0) [] l0 _ _ _ (fun _ => True) (fun _ => False) rfl rfl (Kd.R_nil _ _ _ _ _) HR0.out (fun _ _ h => h) (fun _ h => h.elim) (fun _ _ => trivial) (Below.refl W.heap.size W) (Below.refl W.heap.size W).size (by simp; omega) ?_)
  intro v1 w1 hR1 hb1 _ _
  have hR1 : Kd.R (Kd.int .u8) 5 w1 W.heap.size (fun _ => True) v1 l0 := hR1
  obtain ⟨B1, d1, rfl⟩ := Kd.R_slice hR1
  have HRA := Aside0.mk hR1
  have HBA := Aside0.mk hb1
  clear hR1 hb1
  go_wp2_with (at_builtin; refine Kd.R_append_zeros (Kd.int .u8) W.heap.size rfl (.tmp 22) (.const (.int .i64 65)) 22 3 5 (.int .u8 0) 1 rfl Tryd.underlying22 Tryd.underlying3 info5b rfl (by decide) (by decide) (.slice B1 l0.length d1) l0 0 65 (fun _ => True) rfl rfl rfl (fun _ _ => trivial) HRA.out (by omega) HBA.out HBA.out.size (by simp; omega) ?_)
  intro v2 w2 hR2 hb2 _ _
  obtain ⟨LZ, hLZ⟩ : ∃ LZ, LZ = l0 ++ List.replicate 65 (0 : Int) := ⟨_, rfl⟩
  have hR2 : Kd.R (Kd.int .u8) 5 w2 W.heap.size (fun _ => True) v2 LZ := by rw [hLZ]; exact hR2
  have hzl : LZ.length = l0.length + 65 := by rw [hLZ, List.length_append, List.length_replicate]
  have hzb : ∀ x ∈ LZ, 0 ≤ x ∧ x ≤ 255 := by
    rw [hLZ]; exact bytes_app HB0.out (by intro x hx; rw [List.eq_of_mem_replicate hx]; omega)
  have hkk : codeL LZ l1 = codeL (shaL LZ) l1 := codeL_sha LZ l1 (by omega)
  obtain ⟨B2, d2, rfl, hl2, hC2⟩ := Kd.R_reads hR2
  have hs : Calls Tryd.prog 23 #[.slice B2 LZ.length d2] w2 (RowPost (shaL LZ) w2) := rsum_any B2 d2 LZ w2 hC2 hl2 (by omega) hzb
  have HS := Aside0.mk hs
  have HC2 := Aside0.mk hC2
  have HB2 := Aside0.mk hb2
  have HZB := Aside0.mk hzb
  have HKK := Aside0.mk hkk
  have hzq : LZ.length ≤ 300 := by omega
  clear hzl
  clear hR2 hb2 hC2 hLZ HRA HBA hs hzb hkk
  go_wp2_with (go_at_call 23; ((with_reducible refine (HS.out).mono ?_)))
  rintro e w3 ⟨v3, rfl, hR3, hb3⟩
  have hS32 := shaL_len LZ
  have hSb := shaL_bytes LZ
  obtain ⟨SS, hSS⟩ : ∃ SS, SS = shaL LZ := ⟨_, rfl⟩
  rw [← hSS] at hR3 hS32 hSb HKK
  obtain ⟨B3, d3, rfl, hl3, hC3⟩ := Kd.R_reads hR3
  have HC3 := Aside0.mk hC3
  have hW3 := below_step HB2.out hb3
  have HC23 := Aside0.mk (Kd.C_below HC2.out hb3)
  have HB3 := Aside0.mk hW3
  have HSB := Aside0.mk hSb
  have HS32 := Aside0.mk hS32
  clear hR3 hb3 hC3 hW3 hSS HS HC2 hSb hS32
  go_wp2_with (at_builtin; refine Kd.R_append_rows (Kd.int .u8) (w0 := w3) w3.heap.size rfl (.tmp 26) (.tmp 31) 22 5 (.int .u8 0) 1 rfl Tryd.underlying22 info5b rfl (by decide) (by omega) (.slice none 0 0) [] M _ _ _ (fun _ => True) (fun _ => False) rfl rfl (Kd.R_nil _ _ _ _ _) (HRM.out _ HB3.out) (fun _ _ h => h) (fun _ h => h.elim) (fun _ _ => trivial) (Below.refl w3.heap.size w3) (Below.refl w3.heap.size w3).size (by simp; omega) ?_)
  intro v4 w4 hR4 hb4 _ _
  have hR4 : Kd.R (Kd.int .u8) 5 w4 w3.heap.size (fun _ => True) v4 M := hR4
  obtain ⟨B4, d4, rfl⟩ := Kd.R_slice hR4
  have HRB := Aside0.mk hR4
  have HBB := Aside0.mk hb4
  clear hR4 hb4
  go_wp2_with (at_builtin; refine Kd.R_append_zeros (Kd.int .u8) w3.heap.size rfl (.tmp 33) (.tmp 36) 22 3 5 (.int .u8 0) 1 rfl Tryd.underlying22 Tryd.underlying3 info5b rfl (by decide) (by decide) (.slice B4 M.length d4) M 0 z (fun _ => True) rfl rfl rfl (fun _ _ => trivial) HRB.out (by omega) HBB.out HBB.out.size (by simp; omega) ?_)
  intro v5 w5 hR5 hb5 _ _
  obtain ⟨MZ, hMZ⟩ : ∃ MZ, MZ = M ++ List.replicate z (0 : Int) := ⟨_, rfl⟩
  have hR5 : Kd.R (Kd.int .u8) 5 w5 w3.heap.size (fun _ => True) v5 MZ := by rw [hMZ]; exact hR5
  have hml : MZ.length = M.length + z := by rw [hMZ, List.length_append, List.length_replicate]
  have hmb : ∀ x ∈ MZ, 0 ≤ x ∧ x ≤ 255 := by
    rw [hMZ]; exact bytes_app HBM.out (by intro x hx; rw [List.eq_of_mem_replicate hx]; omega)
  have hmm : codeL MZ l1 = codeL M l1 := by rw [hMZ]; exact codeL_zeros M l1 z (by omega)
  obtain ⟨B5, d5, rfl, hl5, hC5⟩ := Kd.R_reads hR5
  have hW5 := below_step HB3.out hb5
  have hC25 := Kd.C_below HC23.out hb5
  have hC35 := Kd.C_below HC3.out hb5
  obtain ⟨H1, hH1⟩ : ∃ H, H = codeL LZ l1 := ⟨_, rfl⟩
  obtain ⟨H2, hH2⟩ : ∃ H, H = codeL M l1 := ⟨_, rfl⟩
  have HA1 : Aside0 (∀ X, Below w5.heap.size w5 X → Calls Tryd.prog 33 #[.slice B2 LZ.length d2, .slice A1 l1.length c1] X (RowBPost H1 X)) := ⟨fun X hX => by
    rw [hH1]
    exact rowb_of (code_any B2 d2 LZ A1 c1 l1 X (Kd.C_below hC25 hX) hl2 HZB.out (by omega) (Kd.C_below HR1.out (below_step hW5 hX)) hc1 HB1.out (by omega) (HG.out.below rfl (below_step hW5 hX)))⟩
  have HA2 : Aside0 (∀ X, Below w5.heap.size w5 X → Calls Tryd.prog 33 #[.slice B3 SS.length d3, .slice A1 l1.length c1] X (RowBPost H1 X)) := ⟨fun X hX => by
    rw [hH1, HKK.out]
    exact rowb_of (code_any B3 d3 SS A1 c1 l1 X (Kd.C_below hC35 hX) hl3 HSB.out (by rw [HS32.out]; decide) (Kd.C_below HR1.out (below_step hW5 hX)) hc1 HB1.out (by omega) (HG.out.below rfl (below_step hW5 hX)))⟩
  have HA3 : Aside0 (∀ X, Below w5.heap.size w5 X → Calls Tryd.prog 33 #[.slice B5 MZ.length d5, .slice A1 l1.length c1] X (RowBPost H2 X)) := ⟨fun X hX => by
    rw [hH2, ← hmm]
    exact rowb_of (code_any B5 d5 MZ A1 c1 l1 X (Kd.C_below hC5 hX) hl5 hmb (by omega) (Kd.C_below HR1.out (below_step hW5 hX)) hc1 HB1.out (by omega) (HG.out.below rfl (below_step hW5 hX)))⟩
  have HA4 : Aside0 (∀ X, Below w5.heap.size w5 X → Calls Tryd.prog 33 #[.slice A0 M.length c0, .slice A1 l1.length c1] X (RowBPost H2 X)) := ⟨fun X hX => by
    rw [hH2]
    exact rowb_of (code_any A0 c0 M A1 c1 l1 X (HRM.out _ (below_step hW5 hX)) hmc HBM.out (by omega) (Kd.C_below HR1.out (below_step hW5 hX)) hc1 HB1.out (by omega) (HG.out.below rfl (below_step hW5 hX)))⟩
  have HW5 := Aside0.mk hW5
  obtain ⟨nL, hnL⟩ : ∃ n, n = LZ.length := ⟨_, rfl⟩
  obtain ⟨nS, hnS⟩ : ∃ n, n = SS.length := ⟨_, rfl⟩
  obtain ⟨nZ, hnZ⟩ : ∃ n, n = MZ.length := ⟨_, rfl⟩
  obtain ⟨nM, hnM⟩ : ∃ n, n = M.length := ⟨_, rfl⟩
  obtain ⟨nA, hnA⟩ : ∃ n, n = l1.length := ⟨_, rfl⟩
  obtain ⟨nK, hnK⟩ : ∃ n, n = l0.length := ⟨_, rfl⟩
  rw [← hnL, ← hnA] at HA1
  rw [← hnS, ← hnA] at HA2
  rw [← hnZ, ← hnA] at HA3
  rw [← hnM, ← hnA] at HA4
  rw [← hnM, ← hnK] at emin hm0
  rw [← hnM] at hm4 hmc
  rw [← hnK] at hc0
  rw [← hnL, ← hnS, ← hnZ, ← hnA, ← hnK]
  clear hR5 hb5 hC5 hMZ HRB HBB hmb hmm hl5 hC25 hC35 hH1 hH2 hW5 hnL hnS hnZ hnM hnA hnK HC23 HC3 hl2 hl3 hzq hml n0 n1 hl0 hl1 g1 g2 g3 g4 hc1
  go_wp2
  refine wp_region_inv_ex (fun X => Below w5.heap.size w5 X) (fun X Y => Below X.heap.size X Y) (BOf
      [some (.bool true), some (.bool true), some (.slice B2 nL d2), some (.slice A1 nA c1), none, some (.string (strOfNums H1)), some (.slice B3 nS d3), some (.slice A1 nA c1), none, some (.string (strOfNums H1)), some (.bool true), some (.bool true), some (.bool true), some (.slice B5 nZ d5), some (.slice A1 nA c1), none, some (.string (strOfNums H2)), some (.slice A0 nK c0), some (.slice A0 nK c0), some (.int .i64 (nK : Int)), some (.int .i64 (nM : Int)), some (.slice A0 nM c0), some (.slice A1 nA c1), none, some (.string (strOfNums H2)), some (.bool true), some (.bool true), some (.bool true)]
      [(4, RowB H1), (8, RowB H1), (15, RowB H2), (23, RowB H2)])
    (by kernel_rfl) (by kernel_rfl) (by kernel_rfl) (fun X => Below.refl _ X) (BOf_below ?hspS) (Below.refl _ _).drew ?allS
  case hspS => simp [RowB.sp]
  apply Exists.intro
  refine ⟨?hAS, ?stepsS, ?finS⟩
  case hAS =>
    simp only [lay, Act.put, List.setIfInBounds_toArray, List.set_cons_zero, List.set_cons_succ, Nat.zero_add, Nat.reduceAdd]
    exact rfl
  case stepsS =>
    repeat' (first | exact Steps.nil | refine Steps.cons ?_ ?_)
    all_goals (intro us X F hC hd hF; simp only [Deps, BOf, pureAt, spAt] at hd hF)
    all_goals (try simp only [Nat.reduceAdd, Nat.reduceEqDiff, false_implies, true_implies, and_true, true_and] at hd hF)
    all_goals ((try (first | (refine Exists.elim (show RowB H1 _ _ from hd.1) ?_; rintro B ⟨d, e, hCg, hdg⟩; have hs := Kd.C_string (P := Tryd.prog) (c := d) Tryd.underlying22 Tryd.underlying5 Tryd.underlying9 hCg) | (refine Exists.elim (show RowB H2 _ _ from hd.1) ?_; rintro B ⟨d, e, hCg, hdg⟩; have hs := Kd.C_string (P := Tryd.prog) (c := d) Tryd.underlying22 Tryd.underlying5 Tryd.underlying9 hCg))))
    all_goals go_simp
    all_goals (first
      | exact hF _ _ hC (Below.refl _ _) rfl
      | ((with_reducible refine (KN.out _ (below_step HW5.out hC)).mono ?_); rintro e w' ⟨rfl, hb⟩; exact ⟨_, rfl, hF _ _ (below_step hC hb) hb rfl⟩)
      | ((with_reducible refine (HA1.out _ hC).mono ?_); rintro e w' ⟨v, rfl, hv, hb⟩; exact ⟨_, rfl, hF _ _ (below_step hC hb) hb hv⟩)
      | ((with_reducible refine (HA2.out _ hC).mono ?_); rintro e w' ⟨v, rfl, hv, hb⟩; exact ⟨_, rfl, hF _ _ (below_step hC hb) hb hv⟩)
      | ((with_reducible refine (HA3.out _ hC).mono ?_); rintro e w' ⟨v, rfl, hv, hb⟩; exact ⟨_, rfl, hF _ _ (below_step hC hb) hb hv⟩)
      | ((with_reducible refine (HA4.out _ hC).mono ?_); rintro e w' ⟨v, rfl, hv, hb⟩; exact ⟨_, rfl, hF _ _ (below_step hC hb) hb hv⟩))
  case finS =>
    intro us X hC hB
    have h27 : us 27 = .bool true := (hB 27 (by decide)).1
    rw [h27]
    go_wp2
    go_ret
    exact ⟨rfl, below_step HW5.out hC⟩
end Go.Proofs.YtfmdpkilgnccfaaDoor.Pure
