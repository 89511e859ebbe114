/- KdfSalts by hand. -/
import Derived.Test.YtfmdpkilgnccfaaDoorKdf
import Derived.Test.YtfmdpkilgnccfaaDoorWZeros
namespace Go.Proofs.YtfmdpkilgnccfaaDoor.Pure
open Go.RowKit Go.Proofs.YtfmdpkilgnccfaaDoorW.PrintWords Go.Proofs.YtfmdpkilgnccfaaDoorW.PrintLast Go.Proofs.YtfmdpkilgnccfaaDoorW.PrintMore Go.Proofs.YtfmdpkilgnccfaaDoor.Pr Go.Proofs.YtfmdpkilgnccfaaDoor.E
set_option linter.unusedVariables false
set_option linter.unusedSimpArgs false
attribute [local go_sem] opVal opUpon
theorem getD_zeros (l : List Int) (z i : Nat) : (l ++ List.replicate z 0).getD i 0 = l.getD i 0 := by
  simp only [List.getD_eq_getElem?_getD]
  by_cases h : i < l.length
  · rw [List.getElem?_append_left h]
  · rw [List.getElem?_append_right (by omega), List.getElem?_eq_none (l := l) (by omega), List.getElem?_replicate]
    split <;> rfl
theorem padK_zeros (l : List Int) (z c : Nat) (h : l.length + z ≤ 64) : padK (l ++ List.replicate z 0) c = padK l c := by
  have e1 : keyL (l ++ List.replicate z 0) = l ++ List.replicate z 0 := if_pos (by rw [List.length_append, List.length_replicate]; exact h)
  have e2 : keyL l = l := if_pos (by omega)
  unfold padK
  rw [e1, e2]
  simp only [getD_zeros]
theorem codeL_zeros (l m : List Int) (z : Nat) (h : l.length + z ≤ 64) : codeL (l ++ List.replicate z 0) m = codeL l m := by
  unfold codeL
  rw [padK_zeros l z _ h, padK_zeros l z _ h]
theorem uL_zeros (l s : List Int) (z : Nat) (h : l.length + z ≤ 64) : ∀ i, uL (l ++ List.replicate z 0) s i = uL l s i
  | 0 => rfl
  | i + 1 => by rw [uL, uL, uL_zeros l s z h i, codeL_zeros l _ z h]
theorem hashL_zeros (l s : List Int) (z n : Nat) (h : l.length + z ≤ 64) : hashL (l ++ List.replicate z 0) s n = hashL l s n := by
  unfold hashL seqU
  simp only [uL_zeros l s z h]
set_option maxHeartbeats 8000000 in
set_option maxRecDepth 100000 in
theorem KdfSalts_at (W : World) (A0 : Option Addr) (c0 : Nat) (l0 : List Int) (hr0 : Kd.C (Kd.int .u8) W A0 l0.length l0) (hc0 : l0.length ≤ c0) (hb0 : ∀ x ∈ l0, 0 ≤ x ∧ x ≤ 255) (hl0 : l0.length ≤ 140737488351232)
    (A1 : Option Addr) (c1 : Nat) (l1 : List Int) (hr1 : Kd.C (Kd.int .u8) W A1 l1.length l1) (hc1 : l1.length ≤ c1) (hb1 : ∀ x ∈ l1, 0 ≤ x ∧ x ≤ 255) (hl1 : l1.length ≤ 140737488351232)
    (a2 : Int) (w2 : (Lit.int .u8 a2).wf = true) (a3 : Int) (w3 : (Lit.int .u8 a3).wf = true) (hG : RootsIn W) :
    Calls Tryd.prog 20 #[.slice A0 l0.length c0, .slice A1 l1.length c1, .int .u8 a2, .int .u8 a3] W fun e w' => e = .returned (.bool true) ∧ Below W.heap.size W w' := by
  have KN := Aside0.mk (fun (X : World) (hX : Below W.heap.size W X) => known4 X (hG.below rfl hX))
  have h2 := wf_u8 w2
  have h3 := wf_u8 w3
  have out : (40 < l0.length ∨ 100 < l1.length) → Calls Tryd.prog 20 #[.slice A0 l0.length c0, .slice A1 l1.length c1, .int .u8 a2, .int .u8 a3] W fun e w' => e = .returned (.bool true) ∧ Below W.heap.size W w' := by
    intro hor
    clear hr0 hr1 hb0 hb1 hG w2 w3
    rcases hor with ho | ho
    · have g1 : (40 : Int) < (l0.length : Int) := by omega
      have g2 : decide ((40 : Int) < (l0.length : Int)) = true := decide_eq_true g1
      go_enter Tryd.func20, Tryd.ntmps20
      go_wp2_with (go_at_call 34; ((with_reducible refine (KN.out _ (Below.refl _ _)).mono ?_); rintro e w1 ⟨rfl, hb1⟩); have HB1 := Aside0.mk hb1; clear hb1)
      go_ret
      exact ⟨rfl, HB1.out⟩
    · have g3 : (100 : Int) < (l1.length : Int) := by omega
      have g4 : decide ((100 : Int) < (l1.length : Int)) = true := decide_eq_true g3
      by_cases g : 40 < l0.length
      · have g1 : (40 : Int) < (l0.length : Int) := by omega
        have g2 : decide ((40 : Int) < (l0.length : Int)) = true := decide_eq_true g1
        go_enter Tryd.func20, Tryd.ntmps20
        go_wp2_with (go_at_call 34; ((with_reducible refine (KN.out _ (Below.refl _ _)).mono ?_); rintro e w1 ⟨rfl, hb1⟩); have HB1 := Aside0.mk hb1; clear hb1)
        go_ret
        exact ⟨rfl, HB1.out⟩
      · have g1 : ¬ (40 : Int) < (l0.length : Int) := by omega
        have g2 : decide ((40 : Int) < (l0.length : Int)) = false := decide_eq_false g1
        go_enter Tryd.func20, Tryd.ntmps20
        go_wp2_with (go_at_call 34; ((with_reducible refine (KN.out _ (Below.refl _ _)).mono ?_); rintro e w1 ⟨rfl, hb1⟩); have HB1 := Aside0.mk hb1; clear hb1)
        go_ret
        exact ⟨rfl, HB1.out⟩
  by_cases hor : 40 < l0.length ∨ 100 < l1.length
  · exact out hor
  clear out
  have g1 : ¬ (40 : Int) < (l0.length : Int) := by omega
  have g2 : decide ((40 : Int) < (l0.length : Int)) = false := decide_eq_false g1
  have g3 : ¬ (100 : Int) < (l1.length : Int) := by omega
  have g4 : decide ((100 : Int) < (l1.length : Int)) = false := decide_eq_false g3
  have n0 : l0.length ≤ 40 := by omega
  have n1 : l1.length ≤ 100 := by omega
  obtain ⟨kk, hkk⟩ : ∃ kk : Nat, (kk : Int) = 1 + a2 % 6 := ⟨(1 + a2 % 6).toNat, by omega⟩
  obtain ⟨z, hz⟩ : ∃ z : Nat, (z : Int) = a3 % 24 := ⟨(a3 % 24).toNat, by omega⟩
  have hk1 : 1 ≤ kk := by omega
  have hk6 : kk ≤ 6 := by omega
  have hz24 : z < 24 := by omega
  have e2 : a2 % 6 = (kk : Int) - 1 := by omega
  have e3 : a3 % 24 = (z : Int) := by omega
  have e4 : (1 : Int) + ((kk : Int) - 1) = (kk : Int) := by omega
  have HR0 := Aside0.mk hr0
  have HR1 := Aside0.mk hr1
  have HB0 := Aside0.mk hb0
  have HB1 := Aside0.mk hb1
  have HG := Aside0.mk hG
  have hha := hash_any A0 c0 l0 A1 c1 l1 kk hk1 (by omega)
  have HHA := Aside0.mk (fun (X : World) (hX : Below W.heap.size W X) => hha X (Kd.C_below hr0 hX) hc0 hb0 (by omega) (Kd.C_below hr1 hX) hc1 hb1 (by omega) (hG.below rfl hX))
  clear hr0 hr1 hb0 hb1 hG w2 w3 hkk hz hha
  clear hor
  go_enter Tryd.func20, Tryd.ntmps20
  go_wp2_with (at_builtin; refine Kd.R_append_rows (Kd.int .u8) (w0 := W) W.heap.size rfl (.tmp 25) (.tmp 26) 22 5 (.int .u8 0) 1 rfl Tryd.underlying22 info5b rfl (by decide) (by omega) (.slice none 0 0) [] l0 _ _ _ (fun _ => True) (fun _ => False) rfl rfl (Kd.R_nil _ _ _ _ _) HR0.out (fun _ _ h => h) (fun _ h => h.elim) (fun _ _ => trivial) (Below.refl W.heap.size W) (Below.refl W.heap.size W).size (by simp; omega) ?_)
  intro v1 w1 hR1 hb1 _ _
  have hR1 : Kd.R (Kd.int .u8) 5 w1 W.heap.size (fun _ => True) v1 l0 := hR1
  obtain ⟨B1, d1, rfl⟩ := Kd.R_slice hR1
  have HRA := Aside0.mk hR1
  have HBA := Aside0.mk hb1
  clear hR1 hb1
  go_wp2_with (at_builtin; refine Kd.R_append_zeros (Kd.int .u8) W.heap.size rfl (.tmp 28) (.tmp 31) 22 3 5 (.int .u8 0) 1 rfl Tryd.underlying22 Tryd.underlying3 info5b rfl (by decide) (by decide) (.slice B1 l0.length d1) l0 0 (z : Int) (fun _ => True) rfl rfl rfl (fun _ _ => trivial) HRA.out (by omega) HBA.out HBA.out.size (by simp; omega) ?_)
  intro v2 w2 hR2 hb2 _ _
  obtain ⟨zs, hzs⟩ : ∃ zs, zs = l0 ++ List.replicate z 0 := ⟨_, rfl⟩
  have hR2 : Kd.R (Kd.int .u8) 5 w2 W.heap.size (fun _ => True) v2 zs := by rw [hzs]; exact hR2
  have hzl : zs.length = l0.length + z := by rw [hzs, List.length_append, List.length_replicate]
  have hzb : ∀ x ∈ zs, 0 ≤ x ∧ x ≤ 255 := by
    rw [hzs]; exact bytes_app HB0.out (by intro x hx; rw [List.eq_of_mem_replicate hx]; omega)
  have hhz : hashL zs l1 kk = hashL l0 l1 kk := by rw [hzs]; exact hashL_zeros l0 l1 z kk (by omega)
  obtain ⟨B4, d4, rfl, hl4, hC4⟩ := Kd.R_reads hR2
  have HC4 := Aside0.mk hC4
  have HB2 := Aside0.mk hb2
  have HHZ := Aside0.mk hhz
  have HZB := Aside0.mk hzb
  clear hR2 hb2 hC4 hzs HRA HBA hhz hzb
  go_wp2_with (go_at_call 37; ((with_reducible refine (HHA.out _ HB2.out).mono ?_)))
  rintro e w3 ⟨v3, rfl, ⟨B, d, rfl, hCa, hd3⟩, hb3⟩
  obtain ⟨ad, rfl, -⟩ := Kd.at_int hCa 0 (by decide) (by decide)
  obtain ⟨H, hH⟩ : ∃ H, H = hashL l0 l1 kk := ⟨_, rfl⟩
  obtain ⟨NN, hNN⟩ : ∃ NN, NN = hashL [] [] kk := ⟨_, rfl⟩
  have hW3 := below_step HB2.out hb3
  have h32 : H.length = 32 := by rw [hH]; exact hashL_len _ _ _
  have hHb : ∀ x ∈ H, 0 ≤ x ∧ x ≤ 255 := by rw [hH]; exact hashL_bytes _ _ _
  rw [← hH] at hCa
  have hC43 := Kd.C_below HC4.out hb3
  have HHL : Aside0 (∀ X, Below w3.heap.size w3 X → Calls Tryd.prog 37 #[.slice B4 zs.length d4, .slice A1 l1.length c1, .int .i64 (kk : Int)] X fun e w' => ∃ v, e = .returned v ∧ SumVal H v w' ∧ Below X.heap.size X w') := ⟨fun X hX => by
    have := hash_any B4 d4 zs A1 c1 l1 kk hk1 (by omega) X (Kd.C_below hC43 hX) hl4 HZB.out (by omega) (Kd.C_below HR1.out (below_step hW3 hX)) hc1 HB1.out (by omega) (HG.out.below rfl (below_step hW3 hX))
    rwa [HHZ.out, ← hH] at this⟩
  have HHN : Aside0 (∀ X, Below w3.heap.size w3 X → Calls Tryd.prog 37 #[.slice none 0 0, .slice none 0 0, .int .i64 (kk : Int)] X fun e w' => ∃ v, e = .returned v ∧ SumVal NN v w' ∧ Below X.heap.size X w') := ⟨fun X hX => by
    have := hash_any none 0 [] none 0 [] kk hk1 (by omega) X (Kd.C_empty _ _) (Nat.le_refl _) (by simp) (by decide) (Kd.C_empty _ _) (Nat.le_refl _) (by simp) (by decide) (HG.out.below rfl (below_step hW3 hX))
    rw [← hNN] at this
    exact this⟩
  have HRT : Aside0 (∀ X, Below w3.heap.size w3 X → Calls Tryd.prog 43 #[.slice B4 zs.length d4, .slice A1 l1.length c1, .int .i64 (kk : Int), .slice (some ad) 32 d] X fun e w' => e = .returned (.bool true) ∧ Below X.heap.size X w') := ⟨fun X hX => by
    have := right_any B4 d4 zs A1 c1 l1 kk hk1 (by omega) (some ad) d H X (Kd.C_below hC43 hX) hl4 HZB.out (by omega) (Kd.C_below HR1.out (below_step hW3 hX)) hc1 HB1.out (by omega) (by rw [h32]; exact Kd.C_below hCa hX) (by rw [h32]; exact hd3) hHb (HG.out.below rfl (below_step hW3 hX))
    rw [HHZ.out, ← hH, h32] at this
    simpa using this⟩
  obtain ⟨nl, hnl⟩ : ∃ nl, nl = zs.length := ⟨_, rfl⟩
  obtain ⟨ns, hns⟩ : ∃ ns, ns = l1.length := ⟨_, rfl⟩
  rw [← hnl, ← hns] at HHL HRT
  rw [← hnl, ← hns]
  have HCA := Aside0.mk hCa
  have HW3 := Aside0.mk hW3
  clear hCa hd3 hb3 hH hNN hW3 h32 hHb hC43 hnl hns hl4 hzl HHA
  go_wp2
  refine wp_region_inv_ex (fun X => Below w3.heap.size w3 X) (fun X Y => Below X.heap.size X Y) (BOf
      [some (.bool true), some (.bool true), some (.slice (some ad) 32 d), some (.int .i64 32), some (.bool true), some (.bool true), some (.bool true), some (.slice (some ad) 32 d), some (.string (strOfNums H)), some (.slice B4 nl d4), some (.slice A1 ns c1), some (.int .i64 (kk : Int)), none, some (.string (strOfNums H)), some (.bool true), some (.bool true), some (.bool true), some (.int .i64 (kk : Int)), none, some (.int .i64 32), some (.bool true), some (.bool true), some (.bool true), some (.slice B4 nl d4), some (.slice A1 ns c1), some (.int .i64 (kk : Int)), some (.slice (some ad) 32 d), some (.bool true), some (.bool true), some (.bool true)]
      [(12, SumVal H), (18, SumVal NN)])
    (by kernel_rfl) (by kernel_rfl) (by kernel_rfl) (fun X => Below.refl _ X) (BOf_below ?hspS) (Below.refl _ _).drew ?allS
  case hspS => simp [SumVal.sp]
  apply Exists.intro
  refine ⟨?hAS, ?stepsS, ?finS⟩
  case hAS =>
    simp only [lay, Act.put, List.setIfInBounds_toArray, List.set_cons_zero, List.set_cons_succ, Nat.zero_add, Nat.reduceAdd]
    exact rfl
  case stepsS =>
    repeat' (first | exact Steps.nil | refine Steps.cons ?_ ?_)
    all_goals (intro us X F hC hd hF; simp only [Deps, BOf, pureAt, spAt] at hd hF)
    all_goals (try simp only [Nat.reduceAdd, Nat.reduceEqDiff, false_implies, true_implies, and_true, true_and] at hd hF)
    all_goals (have hsA := Kd.C_string (P := Tryd.prog) (c := d) Tryd.underlying22 Tryd.underlying5 Tryd.underlying9 (Kd.C_below HCA.out hC))
    all_goals (try (first | (refine Exists.elim (show SumVal H _ _ from hd.1) ?_; rintro B ⟨d, e, hCg, hdg⟩; have hs := Kd.C_string (P := Tryd.prog) (c := d) Tryd.underlying22 Tryd.underlying5 Tryd.underlying9 hCg) | (refine Exists.elim (show SumVal NN _ _ from hd.1) ?_; rintro B ⟨d, e, hCg, hdg⟩)))
    all_goals go_simp
    all_goals (first
      | exact hF _ _ hC (Below.refl _ _) rfl
      | ((with_reducible refine (KN.out _ (below_step HW3.out hC)).mono ?_); rintro e w' ⟨rfl, hb⟩; exact ⟨_, rfl, hF _ _ (below_step hC hb) hb rfl⟩)
      | ((with_reducible refine (HHL.out _ hC).mono ?_); rintro e w' ⟨v, rfl, hv, hb⟩; exact ⟨_, rfl, hF _ _ (below_step hC hb) hb hv⟩)
      | ((with_reducible refine (HHN.out _ hC).mono ?_); rintro e w' ⟨v, rfl, hv, hb⟩; exact ⟨_, rfl, hF _ _ (below_step hC hb) hb hv⟩)
      | ((with_reducible refine (HRT.out _ hC).mono ?_); rintro e w' ⟨rfl, hb⟩; exact ⟨_, rfl, hF _ _ (below_step hC hb) hb rfl⟩))
  case finS =>
    intro us X hC hB
    have h29 : us 29 = .bool true := (hB 29 (by decide)).1
    rw [h29]
    go_wp2
    go_ret
    exact ⟨rfl, below_step HW3.out hC⟩
end Go.Proofs.YtfmdpkilgnccfaaDoor.Pure
