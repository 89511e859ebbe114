/- KdfRounds by hand. -/
import Derived.Test.YtfmdpkilgnccfaaDoorKdf
import Derived.Test.YtfmdpkilgnccfaaDoorWZeros
namespace Go.Proofs.YtfmdpkilgnccfaaDoor.Pure
open Go.RowKit Go.Proofs.YtfmdpkilgnccfaaDoorW.PrintWords Go.Proofs.YtfmdpkilgnccfaaDoorW.PrintLast Go.Proofs.YtfmdpkilgnccfaaDoorW.PrintMore Go.Proofs.YtfmdpkilgnccfaaDoor.Pr Go.Proofs.YtfmdpkilgnccfaaDoor.E
set_option linter.unusedVariables false
set_option linter.unusedSimpArgs false
attribute [local go_sem] opVal opUpon
def HashPost (H : List Int) (X : World) (e : Ending) (w' : World) : Prop := ∃ v, e = .returned v ∧ SumVal H v w' ∧ Below X.heap.size X w'
def OutPost (X : World) (e : Ending) (w' : World) : Prop := e = .returned (.slice none 0 0) ∧ Below X.heap.size X w'
theorem OutPost.of {P : Program} {f : FuncId} {args : Array Value} {X : World} (h : Calls P f args X fun e w' => e = .returned (.slice none 0 0) ∧ Below X.heap.size X w') : Calls P f args X (OutPost X) := h
set_option maxHeartbeats 8000000 in
set_option maxRecDepth 100000 in
theorem KdfRounds_at (W : World) (A0 : Option Addr) (c0 : Nat) (l0 : List Int) (hr0 : Kd.C (Kd.int .u8) W A0 l0.length l0) (hc0 : l0.length ≤ c0) (hb0 : ∀ x ∈ l0, 0 ≤ x ∧ x ≤ 255) (hl0 : l0.length ≤ 140737488351232)
    (A1 : Option Addr) (c1 : Nat) (l1 : List Int) (hr1 : Kd.C (Kd.int .u8) W A1 l1.length l1) (hc1 : l1.length ≤ c1) (hb1 : ∀ x ∈ l1, 0 ≤ x ∧ x ≤ 255) (hl1 : l1.length ≤ 140737488351232)
    (a2 : Int) (w2 : (Lit.int .i64 a2).wf = true) (a3 : Int) (w3 : (Lit.int .u8 a3).wf = true) (hG : RootsIn W) :
    Calls Tryd.prog 18 #[.slice A0 l0.length c0, .slice A1 l1.length c1, .int .i64 a2, .int .u8 a3] W fun e w' => e = .returned (.bool true) ∧ Below W.heap.size W w' := by
  have KN := Aside0.mk (fun (X : World) (hX : Below W.heap.size W X) => known4 X (hG.below rfl hX))
  have h3 := wf_u8 w3
  have known_out : (200 < l0.length + l1.length ∨ (20 < a2 ∧ a2 < 1000)) → Calls Tryd.prog 18 #[.slice A0 l0.length c0, .slice A1 l1.length c1, .int .i64 a2, .int .u8 a3] W fun e w' => e = .returned (.bool true) ∧ Below W.heap.size W w' := by
    intro hor
    clear hr0 hr1 hb0 hb1 hG w2 w3
    by_cases h200 : 200 < l0.length + l1.length
    · have g1 : (200 : Int) < (l0.length : Int) + (l1.length : Int) := by omega
      have g2 : decide ((200 : Int) < (l0.length : Int) + (l1.length : Int)) = true := decide_eq_true g1
      clear hor h200
      go_enter Tryd.func18, Tryd.ntmps18
      go_wp2_with (go_at_call 34; ((with_reducible refine (KN.out _ (Below.refl _ _)).mono ?_); rintro e w1 ⟨rfl, hb1⟩); have HB1 := Aside0.mk hb1; clear hb1)
      go_ret
      exact ⟨rfl, HB1.out⟩
    · have g1 : ¬ (200 : Int) < (l0.length : Int) + (l1.length : Int) := by omega
      have g2 : decide ((200 : Int) < (l0.length : Int) + (l1.length : Int)) = false := decide_eq_false g1
      have g3 : (20 : Int) < a2 := by omega
      have g4 : a2 < 1000 := by omega
      have g5 : decide ((20 : Int) < a2) = true := decide_eq_true g3
      have g6 : decide (a2 < 1000) = true := decide_eq_true g4
      clear hor h200
      go_enter Tryd.func18, Tryd.ntmps18
      go_wp2_with (go_at_call 34; ((with_reducible refine (KN.out _ (Below.refl _ _)).mono ?_); rintro e w1 ⟨rfl, hb1⟩); have HB1 := Aside0.mk hb1; clear hb1)
      go_ret
      exact ⟨rfl, HB1.out⟩
  by_cases hor : 200 < l0.length + l1.length ∨ (20 < a2 ∧ a2 < 1000)
  · exact known_out hor
  clear known_out
  have g1 : ¬ (200 : Int) < (l0.length : Int) + (l1.length : Int) := by omega
  have g2 : decide ((200 : Int) < (l0.length : Int) + (l1.length : Int)) = false := decide_eq_false g1
  have n01 : l0.length + l1.length ≤ 200 := by omega
  have hn2 : a2 ≤ 20 ∨ 1000 ≤ a2 := by omega
  clear hor
  obtain ⟨m, hmm⟩ : ∃ m : Nat, (m : Int) = 1 + a3 % 9 := ⟨(1 + a3 % 9).toNat, by omega⟩
  have hm1 : 1 ≤ m := by omega
  have hm9 : m ≤ 9 := by omega
  have e2 : a3 % 9 = (m : Int) - 1 := by omega
  have e4 : (1 : Int) + ((m : Int) - 1) = (m : Int) := by omega
  have HRR0 := Aside0.mk hr0
  have HRR1 := Aside0.mk hr1
  have HB0 := Aside0.mk hb0
  have HB1 := Aside0.mk hb1
  have HG := Aside0.mk hG
  rcases hn2 with hn2 | hn2
  · have g3 : ¬ (20 : Int) < a2 := by omega
    have g5 : decide ((20 : Int) < a2) = false := decide_eq_false g3
    by_cases hlow : a2 < 1
    · skip
      have hh1 := hash_out A0 l0.length c0 A1 l1.length c1 a2 (by omega) W
      have HH1 := Aside0.mk hh1
      have hh2 := fun (X : World) (hX : Below W.heap.size W X) => (hash_any A0 c0 l0 A1 c1 l1 m hm1 (by omega) X (Kd.C_below hr0 hX) hc0 hb0 (by omega) (Kd.C_below hr1 hX) hc1 hb1 (by omega) (hG.below rfl hX) : Calls Tryd.prog 37 #[.slice A0 l0.length c0, .slice A1 l1.length c1, .int .i64 (m : Int)] X (HashPost (hashL l0 l1 m) X))
      have HH2 := Aside0.mk hh2
      have q1 : ¬ (1 : Int) ≤ a2 := by omega
      have q3 : decide ((1 : Int) ≤ a2) = false := decide_eq_false q1
      clear hr0 hr1 hb0 hb1 hG w2 w3 hh1 hh2 hmm
      go_enter Tryd.func18, Tryd.ntmps18
      go_wp2_with (go_at_call 37; ((with_reducible refine (OutPost.of HH1.out).mono ?_)))
      rintro e w3 ⟨rfl, hb3⟩
      have HB3 := Aside0.mk hb3
      clear hb3
      go_wp2_with (go_at_call 37; ((with_reducible refine (HH2.out _ HB3.out).mono ?_)))
      rintro e w4 ⟨v4, rfl, ⟨B2, d2, rfl, hC2, hd2⟩, hb4⟩
      obtain ⟨ad2, rfl, -⟩ := Kd.at_int hC2 0 (by decide) (by decide)
      have hW4 := below_step HB3.out hb4
      have h32 : (hashL l0 l1 m).length = 32 := hashL_len _ _ _
      have hHb := hashL_bytes l0 l1 m
      have hne : hashL l0 l1 m ≠ [] := by intro e; rw [e] at h32; cases h32
      have HR1 : Aside0 (∀ X, Below w4.heap.size w4 X → Calls Tryd.prog 43 #[.slice A0 l0.length c0, .slice A1 l1.length c1, .int .i64 a2, .slice none 0 0] X fun e w' => e = .returned (.bool false) ∧ Below X.heap.size X w') := ⟨fun X hX => right_out A0 l0.length c0 A1 l1.length c1 a2 none 0 0 (by omega) X⟩
      have HR2 : Aside0 (∀ X, Below w4.heap.size w4 X → Calls Tryd.prog 43 #[.slice A0 l0.length c0, .slice A1 l1.length c1, .int .i64 (m : Int), .slice (some ad2) 32 d2] X fun e w' => e = .returned (.bool true) ∧ Below X.heap.size X w') := ⟨fun X hX => by
        have := right_any A0 c0 l0 A1 c1 l1 m hm1 (by omega) (some ad2) d2 (hashL l0 l1 m) X (Kd.C_below HRR0.out (below_step hW4 hX)) hc0 HB0.out (by omega) (Kd.C_below HRR1.out (below_step hW4 hX)) hc1 HB1.out (by omega) (by rw [h32]; exact Kd.C_below hC2 hX) (by rw [h32]; exact hd2) hHb (HG.out.below rfl (below_step hW4 hX))
        rw [h32] at this
        simpa using this⟩
      have HR3 : Aside0 (∀ X, Below w4.heap.size w4 X → Calls Tryd.prog 43 #[.slice A0 l0.length c0, .slice A1 l1.length c1, .int .i64 (m : Int), .slice none 0 0] X fun e w' => e = .returned (.bool false) ∧ Below X.heap.size X w') := ⟨fun X hX => by
        have := right_any A0 c0 l0 A1 c1 l1 m hm1 (by omega) none 0 [] X (Kd.C_below HRR0.out (below_step hW4 hX)) hc0 HB0.out (by omega) (Kd.C_below HRR1.out (below_step hW4 hX)) hc1 HB1.out (by omega) (Kd.C_empty _ _) (Nat.le_refl _) (by simp) (HG.out.below rfl (below_step hW4 hX))
        rw [decide_eq_false hne] at this
        exact this⟩
      have HW4 := Aside0.mk hW4
      clear hC2 hd2 hb4 hW4 h32 hHb hne HB3 HH1 HH2
      go_wp2_with (go_at_call 34; ((with_reducible refine (KN.out _ HW4.out).mono ?_)))
      rintro e w5 ⟨rfl, hb5⟩
      have HB5 := Aside0.mk hb5
      clear hb5
      go_wp2_with (first
        | (go_at_call 43; ((with_reducible refine (HR1.out _ HB5.out).mono ?_); rintro e w6 ⟨rfl, hbx⟩); have HB6 := Aside0.mk (below_step HB5.out hbx); clear hbx HR1)
        | (go_at_call 43; ((with_reducible refine (HR2.out _ HB6.out).mono ?_); rintro e w7 ⟨rfl, hbx⟩); have HB7 := Aside0.mk (below_step HB6.out hbx); clear hbx HR2)
        | (go_at_call 43; ((with_reducible refine (HR3.out _ HB7.out).mono ?_); rintro e w8 ⟨rfl, hbx⟩); have HB8 := Aside0.mk (below_step HB7.out hbx); clear hbx HR3))
      go_ret
      exact ⟨rfl, below_step HW4.out HB8.out⟩
    · skip
      obtain ⟨nn, rfl⟩ : ∃ nn : Nat, a2 = (nn : Int) := ⟨a2.toNat, by omega⟩
      have hh1 : Calls Tryd.prog 37 #[.slice A0 l0.length c0, .slice A1 l1.length c1, .int .i64 (nn : Int)] W (HashPost (hashL l0 l1 nn) W) := hash_any A0 c0 l0 A1 c1 l1 nn (by omega) (by omega) W hr0 hc0 hb0 (by omega) hr1 hc1 hb1 (by omega) hG
      have HH1 := Aside0.mk hh1
      have hh2 := fun (X : World) (hX : Below W.heap.size W X) => (hash_any A0 c0 l0 A1 c1 l1 m hm1 (by omega) X (Kd.C_below hr0 hX) hc0 hb0 (by omega) (Kd.C_below hr1 hX) hc1 hb1 (by omega) (hG.below rfl hX) : Calls Tryd.prog 37 #[.slice A0 l0.length c0, .slice A1 l1.length c1, .int .i64 (m : Int)] X (HashPost (hashL l0 l1 m) X))
      have HH2 := Aside0.mk hh2
      have q1 : (1 : Int) ≤ (nn : Int) := by omega
      have q2 : (nn : Int) ≤ 1000 := by omega
      have q3 : decide ((1 : Int) ≤ (nn : Int)) = true := decide_eq_true q1
      have q4 : decide ((nn : Int) ≤ 1000) = true := decide_eq_true q2
      clear hr0 hr1 hb0 hb1 hG w2 w3 hh1 hh2 hmm
      go_enter Tryd.func18, Tryd.ntmps18
      go_wp2_with (go_at_call 37; ((with_reducible refine (HH1.out).mono ?_)))
      rintro e w3 ⟨v3, rfl, ⟨B, d, rfl, hCa, hd3⟩, hb3⟩
      obtain ⟨ad, rfl, -⟩ := Kd.at_int hCa 0 (by decide) (by decide)
      have HCA := Aside0.mk hCa
      have HB3 := Aside0.mk hb3
      clear hb3 hCa
      go_wp2_with (go_at_call 37; ((with_reducible refine (HH2.out _ HB3.out).mono ?_)))
      rintro e w4 ⟨v4, rfl, ⟨B2, d2, rfl, hC2, hd2⟩, hb4⟩
      obtain ⟨ad2, rfl, -⟩ := Kd.at_int hC2 0 (by decide) (by decide)
      have hW4 := below_step HB3.out hb4
      have h32 : (hashL l0 l1 m).length = 32 := hashL_len _ _ _
      have hHb := hashL_bytes l0 l1 m
      have hne : hashL l0 l1 m ≠ [] := by intro e; rw [e] at h32; cases h32
      have k32 : (hashL l0 l1 nn).length = 32 := hashL_len _ _ _
      have kHb := hashL_bytes l0 l1 nn
      have HR1 : Aside0 (∀ X, Below w4.heap.size w4 X → Calls Tryd.prog 43 #[.slice A0 l0.length c0, .slice A1 l1.length c1, .int .i64 (nn : Int), .slice (some ad) 32 d] X fun e w' => e = .returned (.bool true) ∧ Below X.heap.size X w') := ⟨fun X hX => by
        have := right_any A0 c0 l0 A1 c1 l1 nn (by omega) (by omega) (some ad) d (hashL l0 l1 nn) X (Kd.C_below HRR0.out (below_step hW4 hX)) hc0 HB0.out (by omega) (Kd.C_below HRR1.out (below_step hW4 hX)) hc1 HB1.out (by omega) (by rw [k32]; exact Kd.C_below (Kd.C_below HCA.out hb4) hX) (by rw [k32]; exact hd3) kHb (HG.out.below rfl (below_step hW4 hX))
        rw [k32] at this
        simpa using this⟩
      have HR2 : Aside0 (∀ X, Below w4.heap.size w4 X → Calls Tryd.prog 43 #[.slice A0 l0.length c0, .slice A1 l1.length c1, .int .i64 (m : Int), .slice (some ad2) 32 d2] X fun e w' => e = .returned (.bool true) ∧ Below X.heap.size X w') := ⟨fun X hX => by
        have := right_any A0 c0 l0 A1 c1 l1 m hm1 (by omega) (some ad2) d2 (hashL l0 l1 m) X (Kd.C_below HRR0.out (below_step hW4 hX)) hc0 HB0.out (by omega) (Kd.C_below HRR1.out (below_step hW4 hX)) hc1 HB1.out (by omega) (by rw [h32]; exact Kd.C_below hC2 hX) (by rw [h32]; exact hd2) hHb (HG.out.below rfl (below_step hW4 hX))
        rw [h32] at this
        simpa using this⟩
      have HR3 : Aside0 (∀ X, Below w4.heap.size w4 X → Calls Tryd.prog 43 #[.slice A0 l0.length c0, .slice A1 l1.length c1, .int .i64 (m : Int), .slice none 0 0] X fun e w' => e = .returned (.bool false) ∧ Below X.heap.size X w') := ⟨fun X hX => by
        have := right_any A0 c0 l0 A1 c1 l1 m hm1 (by omega) none 0 [] X (Kd.C_below HRR0.out (below_step hW4 hX)) hc0 HB0.out (by omega) (Kd.C_below HRR1.out (below_step hW4 hX)) hc1 HB1.out (by omega) (Kd.C_empty _ _) (Nat.le_refl _) (by simp) (HG.out.below rfl (below_step hW4 hX))
        rw [decide_eq_false hne] at this
        exact this⟩
      have HW4 := Aside0.mk hW4
      clear hC2 hd2 hb4 hW4 h32 hHb hne HB3 HH1 HH2 k32 kHb HCA hd3
      go_wp2_with (go_at_call 34; ((with_reducible refine (KN.out _ HW4.out).mono ?_)))
      rintro e w5 ⟨rfl, hb5⟩
      have HB5 := Aside0.mk hb5
      clear hb5
      go_wp2_with (first
        | (go_at_call 43; ((with_reducible refine (HR1.out _ HB5.out).mono ?_); rintro e w6 ⟨rfl, hbx⟩); have HB6 := Aside0.mk (below_step HB5.out hbx); clear hbx HR1)
        | (go_at_call 43; ((with_reducible refine (HR2.out _ HB6.out).mono ?_); rintro e w7 ⟨rfl, hbx⟩); have HB7 := Aside0.mk (below_step HB6.out hbx); clear hbx HR2)
        | (go_at_call 43; ((with_reducible refine (HR3.out _ HB7.out).mono ?_); rintro e w8 ⟨rfl, hbx⟩); have HB8 := Aside0.mk (below_step HB7.out hbx); clear hbx HR3))
      go_ret
      exact ⟨rfl, below_step HW4.out HB8.out⟩
  · have g3 : (20 : Int) < a2 := by omega
    have g5 : decide ((20 : Int) < a2) = true := decide_eq_true g3
    have g4 : ¬ a2 < 1000 := by omega
    have g6 : decide (a2 < 1000) = false := decide_eq_false g4
    by_cases hlow : 1000 < a2
    · skip
      have hh1 := hash_out A0 l0.length c0 A1 l1.length c1 a2 (by omega) W
      have HH1 := Aside0.mk hh1
      have hh2 := fun (X : World) (hX : Below W.heap.size W X) => (hash_any A0 c0 l0 A1 c1 l1 m hm1 (by omega) X (Kd.C_below hr0 hX) hc0 hb0 (by omega) (Kd.C_below hr1 hX) hc1 hb1 (by omega) (hG.below rfl hX) : Calls Tryd.prog 37 #[.slice A0 l0.length c0, .slice A1 l1.length c1, .int .i64 (m : Int)] X (HashPost (hashL l0 l1 m) X))
      have HH2 := Aside0.mk hh2
      have q1 : (1 : Int) ≤ a2 := by omega
      have q2 : ¬ a2 ≤ 1000 := by omega
      have q3 : decide ((1 : Int) ≤ a2) = true := decide_eq_true q1
      have q4 : decide (a2 ≤ 1000) = false := decide_eq_false q2
      clear hr0 hr1 hb0 hb1 hG w2 w3 hh1 hh2 hmm
      go_enter Tryd.func18, Tryd.ntmps18
      go_wp2_with (go_at_call 37; ((with_reducible refine (OutPost.of HH1.out).mono ?_)))
      rintro e w3 ⟨rfl, hb3⟩
      have HB3 := Aside0.mk hb3
      clear hb3
      go_wp2_with (go_at_call 37; ((with_reducible refine (HH2.out _ HB3.out).mono ?_)))
      rintro e w4 ⟨v4, rfl, ⟨B2, d2, rfl, hC2, hd2⟩, hb4⟩
      obtain ⟨ad2, rfl, -⟩ := Kd.at_int hC2 0 (by decide) (by decide)
      have hW4 := below_step HB3.out hb4
      have h32 : (hashL l0 l1 m).length = 32 := hashL_len _ _ _
      have hHb := hashL_bytes l0 l1 m
      have hne : hashL l0 l1 m ≠ [] := by intro e; rw [e] at h32; cases h32
      have HR1 : Aside0 (∀ X, Below w4.heap.size w4 X → Calls Tryd.prog 43 #[.slice A0 l0.length c0, .slice A1 l1.length c1, .int .i64 a2, .slice none 0 0] X fun e w' => e = .returned (.bool false) ∧ Below X.heap.size X w') := ⟨fun X hX => right_out A0 l0.length c0 A1 l1.length c1 a2 none 0 0 (by omega) X⟩
      have HR2 : Aside0 (∀ X, Below w4.heap.size w4 X → Calls Tryd.prog 43 #[.slice A0 l0.length c0, .slice A1 l1.length c1, .int .i64 (m : Int), .slice (some ad2) 32 d2] X fun e w' => e = .returned (.bool true) ∧ Below X.heap.size X w') := ⟨fun X hX => by
        have := right_any A0 c0 l0 A1 c1 l1 m hm1 (by omega) (some ad2) d2 (hashL l0 l1 m) X (Kd.C_below HRR0.out (below_step hW4 hX)) hc0 HB0.out (by omega) (Kd.C_below HRR1.out (below_step hW4 hX)) hc1 HB1.out (by omega) (by rw [h32]; exact Kd.C_below hC2 hX) (by rw [h32]; exact hd2) hHb (HG.out.below rfl (below_step hW4 hX))
        rw [h32] at this
        simpa using this⟩
      have HR3 : Aside0 (∀ X, Below w4.heap.size w4 X → Calls Tryd.prog 43 #[.slice A0 l0.length c0, .slice A1 l1.length c1, .int .i64 (m : Int), .slice none 0 0] X fun e w' => e = .returned (.bool false) ∧ Below X.heap.size X w') := ⟨fun X hX => by
        have := right_any A0 c0 l0 A1 c1 l1 m hm1 (by omega) none 0 [] X (Kd.C_below HRR0.out (below_step hW4 hX)) hc0 HB0.out (by omega) (Kd.C_below HRR1.out (below_step hW4 hX)) hc1 HB1.out (by omega) (Kd.C_empty _ _) (Nat.le_refl _) (by simp) (HG.out.below rfl (below_step hW4 hX))
        rw [decide_eq_false hne] at this
        exact this⟩
      have HW4 := Aside0.mk hW4
      clear hC2 hd2 hb4 hW4 h32 hHb hne HB3 HH1 HH2
      go_wp2_with (go_at_call 34; ((with_reducible refine (KN.out _ HW4.out).mono ?_)))
      rintro e w5 ⟨rfl, hb5⟩
      have HB5 := Aside0.mk hb5
      clear hb5
      go_wp2_with (first
        | (go_at_call 43; ((with_reducible refine (HR1.out _ HB5.out).mono ?_); rintro e w6 ⟨rfl, hbx⟩); have HB6 := Aside0.mk (below_step HB5.out hbx); clear hbx HR1)
        | (go_at_call 43; ((with_reducible refine (HR2.out _ HB6.out).mono ?_); rintro e w7 ⟨rfl, hbx⟩); have HB7 := Aside0.mk (below_step HB6.out hbx); clear hbx HR2)
        | (go_at_call 43; ((with_reducible refine (HR3.out _ HB7.out).mono ?_); rintro e w8 ⟨rfl, hbx⟩); have HB8 := Aside0.mk (below_step HB7.out hbx); clear hbx HR3))
      go_ret
      exact ⟨rfl, below_step HW4.out HB8.out⟩
    · skip
      obtain ⟨nn, rfl⟩ : ∃ nn : Nat, a2 = (nn : Int) := ⟨a2.toNat, by omega⟩
      have hh1 : Calls Tryd.prog 37 #[.slice A0 l0.length c0, .slice A1 l1.length c1, .int .i64 (nn : Int)] W (HashPost (hashL l0 l1 nn) W) := hash_any A0 c0 l0 A1 c1 l1 nn (by omega) (by omega) W hr0 hc0 hb0 (by omega) hr1 hc1 hb1 (by omega) hG
      have HH1 := Aside0.mk hh1
      have hh2 := fun (X : World) (hX : Below W.heap.size W X) => (hash_any A0 c0 l0 A1 c1 l1 m hm1 (by omega) X (Kd.C_below hr0 hX) hc0 hb0 (by omega) (Kd.C_below hr1 hX) hc1 hb1 (by omega) (hG.below rfl hX) : Calls Tryd.prog 37 #[.slice A0 l0.length c0, .slice A1 l1.length c1, .int .i64 (m : Int)] X (HashPost (hashL l0 l1 m) X))
      have HH2 := Aside0.mk hh2
      have q1 : (1 : Int) ≤ (nn : Int) := by omega
      have q2 : (nn : Int) ≤ 1000 := by omega
      have q3 : decide ((1 : Int) ≤ (nn : Int)) = true := decide_eq_true q1
      have q4 : decide ((nn : Int) ≤ 1000) = true := decide_eq_true q2
      clear hr0 hr1 hb0 hb1 hG w2 w3 hh1 hh2 hmm
      go_enter Tryd.func18, Tryd.ntmps18
      go_wp2_with (go_at_call 37; ((with_reducible refine (HH1.out).mono ?_)))
      rintro e w3 ⟨v3, rfl, ⟨B, d, rfl, hCa, hd3⟩, hb3⟩
      obtain ⟨ad, rfl, -⟩ := Kd.at_int hCa 0 (by decide) (by decide)
      have HCA := Aside0.mk hCa
      have HB3 := Aside0.mk hb3
      clear hb3 hCa
      go_wp2_with (go_at_call 37; ((with_reducible refine (HH2.out _ HB3.out).mono ?_)))
      rintro e w4 ⟨v4, rfl, ⟨B2, d2, rfl, hC2, hd2⟩, hb4⟩
      obtain ⟨ad2, rfl, -⟩ := Kd.at_int hC2 0 (by decide) (by decide)
      have hW4 := below_step HB3.out hb4
      have h32 : (hashL l0 l1 m).length = 32 := hashL_len _ _ _
      have hHb := hashL_bytes l0 l1 m
      have hne : hashL l0 l1 m ≠ [] := by intro e; rw [e] at h32; cases h32
      have k32 : (hashL l0 l1 nn).length = 32 := hashL_len _ _ _
      have kHb := hashL_bytes l0 l1 nn
      have HR1 : Aside0 (∀ X, Below w4.heap.size w4 X → Calls Tryd.prog 43 #[.slice A0 l0.length c0, .slice A1 l1.length c1, .int .i64 (nn : Int), .slice (some ad) 32 d] X fun e w' => e = .returned (.bool true) ∧ Below X.heap.size X w') := ⟨fun X hX => by
        have := right_any A0 c0 l0 A1 c1 l1 nn (by omega) (by omega) (some ad) d (hashL l0 l1 nn) X (Kd.C_below HRR0.out (below_step hW4 hX)) hc0 HB0.out (by omega) (Kd.C_below HRR1.out (below_step hW4 hX)) hc1 HB1.out (by omega) (by rw [k32]; exact Kd.C_below (Kd.C_below HCA.out hb4) hX) (by rw [k32]; exact hd3) kHb (HG.out.below rfl (below_step hW4 hX))
        rw [k32] at this
        simpa using this⟩
      have HR2 : Aside0 (∀ X, Below w4.heap.size w4 X → Calls Tryd.prog 43 #[.slice A0 l0.length c0, .slice A1 l1.length c1, .int .i64 (m : Int), .slice (some ad2) 32 d2] X fun e w' => e = .returned (.bool true) ∧ Below X.heap.size X w') := ⟨fun X hX => by
        have := right_any A0 c0 l0 A1 c1 l1 m hm1 (by omega) (some ad2) d2 (hashL l0 l1 m) X (Kd.C_below HRR0.out (below_step hW4 hX)) hc0 HB0.out (by omega) (Kd.C_below HRR1.out (below_step hW4 hX)) hc1 HB1.out (by omega) (by rw [h32]; exact Kd.C_below hC2 hX) (by rw [h32]; exact hd2) hHb (HG.out.below rfl (below_step hW4 hX))
        rw [h32] at this
        simpa using this⟩
      have HR3 : Aside0 (∀ X, Below w4.heap.size w4 X → Calls Tryd.prog 43 #[.slice A0 l0.length c0, .slice A1 l1.length c1, .int .i64 (m : Int), .slice none 0 0] X fun e w' => e = .returned (.bool false) ∧ Below X.heap.size X w') := ⟨fun X hX => by
        have := right_any A0 c0 l0 A1 c1 l1 m hm1 (by omega) none 0 [] X (Kd.C_below HRR0.out (below_step hW4 hX)) hc0 HB0.out (by omega) (Kd.C_below HRR1.out (below_step hW4 hX)) hc1 HB1.out (by omega) (Kd.C_empty _ _) (Nat.le_refl _) (by simp) (HG.out.below rfl (below_step hW4 hX))
        rw [decide_eq_false hne] at this
        exact this⟩
      have HW4 := Aside0.mk hW4
      clear hC2 hd2 hb4 hW4 h32 hHb hne HB3 HH1 HH2 k32 kHb HCA hd3
      go_wp2_with (go_at_call 34; ((with_reducible refine (KN.out _ HW4.out).mono ?_)))
      rintro e w5 ⟨rfl, hb5⟩
      have HB5 := Aside0.mk hb5
      clear hb5
      go_wp2_with (first
        | (go_at_call 43; ((with_reducible refine (HR1.out _ HB5.out).mono ?_); rintro e w6 ⟨rfl, hbx⟩); have HB6 := Aside0.mk (below_step HB5.out hbx); clear hbx HR1)
        | (go_at_call 43; ((with_reducible refine (HR2.out _ HB6.out).mono ?_); rintro e w7 ⟨rfl, hbx⟩); have HB7 := Aside0.mk (below_step HB6.out hbx); clear hbx HR2)
        | (go_at_call 43; ((with_reducible refine (HR3.out _ HB7.out).mono ?_); rintro e w8 ⟨rfl, hbx⟩); have HB8 := Aside0.mk (below_step HB7.out hbx); clear hbx HR3))
      go_ret
      exact ⟨rfl, below_step HW4.out HB8.out⟩
end Go.Proofs.YtfmdpkilgnccfaaDoor.Pure
