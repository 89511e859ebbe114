/- sha.Sum of one, two, three rows laid in a new block. -/
import Derived.Test.YtfmdpkilgnccfaaDoorSha8
namespace Go.Proofs.YtfmdpkilgnccfaaDoor.E
open Go.RowKit Go.Proofs.YtfmdpkilgnccfaaDoorW.PrintWords Go.Proofs.YtfmdpkilgnccfaaDoorW.PrintLast Go.Proofs.YtfmdpkilgnccfaaDoorW.PrintMore Go.Proofs.YtfmdpkilgnccfaaDoor.Pr
set_option linter.unusedVariables false
theorem rows_at (W : World) (vs : List (Option Addr × Nat × List Int)) (Y : World) (hY : Y = W.alloc (.cells (vs.map fun v => Value.slice v.1 v.2.2.length v.2.1).toArray 22)) (h : ∀ v ∈ vs, Kd.C (Kd.int .u8) Y v.1 v.2.2.length v.2.2 ∧ v.2.2.length ≤ v.2.1) (hl : vs.length ≤ 100) :
    Kd.C (Kd.slice 5 (Kd.int .u8)) Y (some ⟨W.heap.size, 0, none⟩) (vs.map (·.2.2)).length (vs.map (·.2.2)) := by
  refine ⟨rfl, by simp; omega, fun _ => ⟨_, rfl, fun j p hp => ?_⟩⟩
  rw [List.getElem?_map] at hp
  obtain ⟨v, hv, rfl⟩ := Option.map_eq_some_iff.1 hp
  have hm := h v (List.mem_of_getElem? hv)
  refine ⟨[.slice v.1 v.2.2.length v.2.1], rfl, ⟨v.1, v.2.1, rfl, hm.2, hm.1⟩, fun i u hu => ?_⟩
  have hi0 : i = 0 := by have := (List.getElem?_eq_some_iff.1 hu).1; simpa using this
  subst hi0
  obtain rfl : Value.slice v.1 v.2.2.length v.2.1 = u := by simpa using hu
  have e : (⟨W.heap.size, 0, none⟩ : Addr).add (j * (Kd.slice 5 (Kd.int IntKind.u8)).sz + 0) = ⟨W.heap.size, j, none⟩ := by
    rw [show (Kd.slice 5 (Kd.int IntKind.u8)).sz = 1 from rfl, Nat.mul_one, Nat.add_zero]; exact add_plain _ _
  rw [e, hY, cell_of_row _ _ j _ _ _ (heap_alloc_new W _)]
  simp only [List.getElem?_toArray, List.getElem?_map, hv, Option.map_some]
def SumPost (Y : World) (r : List Int) (e : Ending) (w' : World) : Prop := ∃ v0_ : Value, e = .returned v0_ ∧ Kd.R (Kd.int .u8) 5 w' Y.heap.size (fun _ => True) v0_ r ∧ Below Y.heap.size Y w'
theorem sum_rows (W : World) (vs : List (Option Addr × Nat × List Int)) (Y : World) (hY : Y = W.alloc (.cells (vs.map fun v => Value.slice v.1 v.2.2.length v.2.1).toArray 22)) (h : ∀ v ∈ vs, Kd.C (Kd.int .u8) Y v.1 v.2.2.length v.2.2 ∧ v.2.2.length ≤ v.2.1) (hl : vs.length ≤ 100)
    (r : List Int) (hr : (vs.map (·.2.2)).flatten = r) (hlen : r.length ≤ 1000000) (hb : ∀ x ∈ r, 0 ≤ x ∧ x ≤ 255) (hG : RootsIn Y) :
    Calls Tryd.prog 22 #[.slice (some ⟨W.heap.size, 0, none⟩) vs.length vs.length] Y (SumPost Y (shaL r)) := by
  have hrows := rows_at W vs Y hY h hl
  have hs := sha_Sum_some (l := vs.map (·.2.2)) (by rw [hr]; exact hlen) (by rw [hr]; exact hb)
  rw [hr] at hs
  have := sha_Sum.calls (some ⟨W.heap.size, 0, none⟩) vs.length (vs.map (·.2.2)) (shaL r) Y hrows (by rw [List.length_map]; exact Nat.le_refl _) hs hG
  rw [List.length_map] at this
  exact this
theorem sum1 (W : World) (A0 : Option Addr) (n0 c0 : Nat) (l0 : List Int) (h0 : Kd.C (Kd.int .u8) (W.alloc (.cells #[.slice A0 n0 c0] 22)) A0 n0 l0) (g0 : n0 ≤ c0)
    (hlen : l0.length ≤ 1000000) (hb : ∀ x ∈ l0, 0 ≤ x ∧ x ≤ 255) (hG : RootsIn (W.alloc (.cells #[.slice A0 n0 c0] 22))) :
    Calls Tryd.prog 22 #[.slice (some ⟨W.heap.size, 0, none⟩) 1 1] (W.alloc (.cells #[.slice A0 n0 c0] 22)) (SumPost (W.alloc (.cells #[.slice A0 n0 c0] 22)) (shaL l0)) := by
  have e0 : l0.length = n0 := h0.1
  subst e0
  exact sum_rows W [(A0, c0, l0)] _ rfl (by intro v hv; rw [List.mem_singleton] at hv; subst hv; exact ⟨h0, g0⟩) (by simp) l0 (by simp) hlen hb hG
theorem sum2 (W : World) (A0 : Option Addr) (n0 c0 : Nat) (l0 : List Int) (A1 : Option Addr) (n1 c1 : Nat) (l1 : List Int) (h0 : Kd.C (Kd.int .u8) (W.alloc (.cells #[.slice A0 n0 c0, .slice A1 n1 c1] 22)) A0 n0 l0) (g0 : n0 ≤ c0) (h1 : Kd.C (Kd.int .u8) (W.alloc (.cells #[.slice A0 n0 c0, .slice A1 n1 c1] 22)) A1 n1 l1) (g1 : n1 ≤ c1)
    (r : List Int) (hr : l0 ++ l1 = r) (hlen : r.length ≤ 1000000) (hb : ∀ x ∈ r, 0 ≤ x ∧ x ≤ 255) (hG : RootsIn (W.alloc (.cells #[.slice A0 n0 c0, .slice A1 n1 c1] 22))) :
    Calls Tryd.prog 22 #[.slice (some ⟨W.heap.size, 0, none⟩) 2 2] (W.alloc (.cells #[.slice A0 n0 c0, .slice A1 n1 c1] 22)) (SumPost (W.alloc (.cells #[.slice A0 n0 c0, .slice A1 n1 c1] 22)) (shaL r)) := by
  have e0 : l0.length = n0 := h0.1
  have e1 : l1.length = n1 := h1.1
  subst e0; subst e1
  exact sum_rows W [(A0, c0, l0), (A1, c1, l1)] _ rfl (by
    intro v hv
    simp only [List.mem_cons, List.mem_nil_iff, or_false] at hv
    rcases hv with rfl | rfl
    · exact ⟨h0, g0⟩
    · exact ⟨h1, g1⟩) (by simp) r (by simpa using hr) hlen hb hG
theorem sum3 (W : World) (A0 : Option Addr) (n0 c0 : Nat) (l0 : List Int) (A1 : Option Addr) (n1 c1 : Nat) (l1 : List Int) (A2 : Option Addr) (n2 c2 : Nat) (l2 : List Int)
    (h0 : Kd.C (Kd.int .u8) (W.alloc (.cells #[.slice A0 n0 c0, .slice A1 n1 c1, .slice A2 n2 c2] 22)) A0 n0 l0) (g0 : n0 ≤ c0) (h1 : Kd.C (Kd.int .u8) (W.alloc (.cells #[.slice A0 n0 c0, .slice A1 n1 c1, .slice A2 n2 c2] 22)) A1 n1 l1) (g1 : n1 ≤ c1) (h2 : Kd.C (Kd.int .u8) (W.alloc (.cells #[.slice A0 n0 c0, .slice A1 n1 c1, .slice A2 n2 c2] 22)) A2 n2 l2) (g2 : n2 ≤ c2)
    (r : List Int) (hr : l0 ++ (l1 ++ l2) = r) (hlen : r.length ≤ 1000000) (hb : ∀ x ∈ r, 0 ≤ x ∧ x ≤ 255) (hG : RootsIn (W.alloc (.cells #[.slice A0 n0 c0, .slice A1 n1 c1, .slice A2 n2 c2] 22))) :
    Calls Tryd.prog 22 #[.slice (some ⟨W.heap.size, 0, none⟩) 3 3] (W.alloc (.cells #[.slice A0 n0 c0, .slice A1 n1 c1, .slice A2 n2 c2] 22)) (SumPost (W.alloc (.cells #[.slice A0 n0 c0, .slice A1 n1 c1, .slice A2 n2 c2] 22)) (shaL r)) := by
  have e0 : l0.length = n0 := h0.1
  have e1 : l1.length = n1 := h1.1
  have e2 : l2.length = n2 := h2.1
  subst e0; subst e1; subst e2
  exact sum_rows W [(A0, c0, l0), (A1, c1, l1), (A2, c2, l2)] _ rfl (by
    intro v hv
    simp only [List.mem_cons, List.mem_nil_iff, or_false] at hv
    rcases hv with rfl | rfl | rfl
    · exact ⟨h0, g0⟩
    · exact ⟨h1, g1⟩
    · exact ⟨h2, g2⟩) (by simp) r (by simpa using hr) hlen hb hG
theorem cut_hi {P : Program} (t e : TypeId) (kl : IntKind) (ht : P.underlying t = some (.slice e)) (A : Option Addr) (n c : Nat) (hi' : Int) (h0 : 0 ≤ hi') (h2 : hi' ≤ n) (hc : n ≤ c) {i : TypeInfo} (hi : P.info? e = some i) (hsz : i.size = 1) :
    ∀ W : World, (Instr.slice t (.slice A n c) none (some (.int kl hi')) none).run P W = .ok (.slice A hi'.toNat c) W := by
  intro W
  have hel : P.elem t = e := by simp [Program.elem, ht]
  have hu : P.underlying t = some (.slice (P.elem t)) := by rw [hel]; exact ht
  rw [run_slice_h W t A n c hu kl hi' h0 (by omega), hel]
  simp [sizeOf, typeInfo, hi, hsz, sliced, Result.andThen]
  intro _
  cases A with
  | none => rfl
  | some ad => simp [Addr.add_zero']
end Go.Proofs.YtfmdpkilgnccfaaDoor.E
