/- TextAsks: Name, Pass, Note, Runes and Escape of any texts, and of choices, are what the chapter says. -/
import Derived.Test.YtlehjehnapjioaaDoorF3
import Derived.Test.YtlehjehnapjioaaDoorTx4
namespace Go.Proofs.YtlehjehnapjioaaDoor.Pure
open Go.RowKit Go.Lib Go.Proofs.YtlehjehnapjioaaDoorW.PrintWords Go.Proofs.YtlehjehnapjioaaDoorW.PrintLast Go.Proofs.YtlehjehnapjioaaDoorW.PrintMore Go.Proofs.YtlehjehnapjioaaDoor.Pr Go.Proofs.YtlehjehnapjioaaDoor.E
set_option linter.unusedVariables false
set_option linter.unusedSimpArgs false
theorem u8_wf {a : Int} (h : 0 ≤ a ∧ a ≤ 255) : (Lit.int .u8 a).wf = true := by simpa [Lit.wf, IntKind.min, IntKind.max, IntKind.signed, IntKind.bits] using h
theorem wf_u8 {a : Int} (h : (Lit.int .u8 a).wf = true) : 0 ≤ a ∧ a ≤ 255 := by simpa [Lit.wf, IntKind.min, IntKind.max, IntKind.signed, IntKind.bits] using h
theorem asks_f (s : ByteArray) (h : s.size ≤ 10000) (k : Nat) (hk : s.size + 14 ≤ k) : wicketmanlaw06_asks.f k s = some true := by
  unfold wicketmanlaw06_asks.f
  rw [runes_f s (by omega), Option.bind_some, ref_runes_f s (by omega) k hk, Option.bind_some, name_f s (by omega), Option.bind_some, ref_name_f s (by omega) k hk, Option.bind_some, beq_self_eq_true, if_pos rfl,
    pass_f s (by omega), Option.bind_some, ref_pass_f s (by omega) k hk, Option.bind_some, beq_self_eq_true, if_pos rfl, note_f s (by omega), Option.bind_some, ref_note_f s (by omega) k hk, Option.bind_some, beq_self_eq_true, if_pos rfl,
    if_pos rfl, beq_self_eq_true, if_pos rfl, escape_f s (by omega), Option.bind_some, ref_escape_f s (by omega) k hk, Option.bind_some, beq_self_eq_true]
theorem TextAsks : wicketmanlaw06_TextAsks.Pure := by
  intro s l1 hs _ hl1 hb1
  have hc1 : ∀ x ∈ l1, 0 ≤ x ∧ x ≤ 255 := fun x hx => wf_u8 (hb1 x hx)
  refine ⟨2000, ?_⟩
  unfold wicketmanlaw06_TextAsks.f
  obtain ⟨K, hK⟩ : ∃ K, K = 1999 := ⟨_, rfl⟩
  have e : (2000 : Nat) = K + 1 := by omega
  rw [e]
  by_cases h300 : (s.size : Int) > 300
  · rw [if_pos h300]
    simp only [wicketmanlaw06_TextAsks.j0]
    rw [if_pos trivial, known_f]
    rfl
  rw [if_neg h300, known_f, Option.bind_some]
  obtain ⟨t, ht, htz⟩ := text_f l1 hc1 K (by omega)
  simp only [wicketmanlaw06_TextAsks.j0]
  have z1 : (s ++ t).size = s.size + t.size := ByteArray.size_append
  have w2 : wrap64 ((t.size : Int) / 2) = ((t.size / 2 : Nat) : Int) := (w64_id (by omega) (by omega)).trans (by omega)
  have w3 : wrap64 ((t.size : Int) / 3) = ((t.size / 3 : Nat) : Int) := (w64_id (by omega) (by omega)).trans (by omega)
  obtain ⟨n2, hn2⟩ : ∃ n, n = t.size / 2 := ⟨_, rfl⟩
  obtain ⟨n3, hn3⟩ : ∃ n, n = t.size / 3 := ⟨_, rfl⟩
  rw [← hn2] at w2
  rw [← hn3] at w3
  have z2 : (t.extract 0 n2).size ≤ 240 := by rw [size_L, strL_take, List.length_take, strL_len]; omega
  have z3 : (t.extract n3 t.size).size ≤ 240 := by rw [size_L, strL_drop, List.length_drop, strL_len]; omega
  have a1 := asks_f s (by omega) K (by omega)
  have a2 := asks_f t (by omega) K (by omega)
  have a3 := asks_f (s ++ t) (by omega) K (by omega)
  have a4 := asks_f (t.extract 0 n2) (by omega) K (by omega)
  have a5 := asks_f (t.extract n3 t.size) (by omega) K (by omega)
  have i1 : s.size + t.size ≤ 9223372036854775807 := by omega
  have i2 : (0 : Int) ≤ (n2 : Int) ∧ (n2 : Int) ≤ (t.size : Int) := by omega
  have i3 : (0 : Int) ≤ (n3 : Int) ∧ (n3 : Int) ≤ (t.size : Int) := by omega
  rw [if_neg (by decide), ht, Option.bind_some, a1, Option.bind_some, if_pos rfl, a2, Option.bind_some, if_pos rfl, if_pos i1, a3, Option.bind_some, if_pos rfl, w2, if_pos i2.1, if_pos i2.2, Int.toNat_natCast, a4, Option.bind_some, if_pos rfl, w3, if_pos i3.1, if_pos i3.2, Int.toNat_natCast, a5, Option.bind_some]
theorem TextAsks_at (W : World) (s0 : ByteArray) (hs0 : s0.size ≤ 140737488351232) (A1 : Option Addr) (c1 : Nat) (l1 : List Int) (hr1 : Kd.C (Kd.int .u8) W A1 l1.length l1) (hc1 : l1.length ≤ c1) (hb1 : ∀ x ∈ l1, 0 ≤ x ∧ x ≤ 255) (hl1 : l1.length ≤ 140737488351232) (hG : RootsIn W) :
    Calls Tryd.prog 3 #[.string s0, .slice A1 l1.length c1] W fun e w' => e = .returned (.bool true) ∧ Below W.heap.size W w' := by
  obtain ⟨k, hk⟩ := TextAsks s0 l1 hs0 (by unfold maxLen; omega) (by omega) (fun x hx => u8_wf (hb1 x hx))
  exact wicketmanlaw06_TextAsks.calls k s0 A1 c1 l1 true W hr1 hc1 hk hG
end Go.Proofs.YtlehjehnapjioaaDoor.Pure
