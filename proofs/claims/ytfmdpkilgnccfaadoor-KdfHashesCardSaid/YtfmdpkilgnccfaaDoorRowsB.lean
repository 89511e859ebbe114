/- A row of rows that lies in a known block; sha.Sum of it. -/
import Derived.Test.YtfmdpkilgnccfaaDoorSha9
import Derived.Test.YtfmdpkilgnccfaaDoorReg
namespace Go.Proofs.YtfmdpkilgnccfaaDoor.E
open Go.RowKit Go.Proofs.YtfmdpkilgnccfaaDoorW.PrintWords Go.Proofs.YtfmdpkilgnccfaaDoorW.PrintLast Go.Proofs.YtfmdpkilgnccfaaDoorW.PrintMore Go.Proofs.YtfmdpkilgnccfaaDoor.Pr
set_option linter.unusedVariables false
theorem rows_blk (Y : World) (g : Nat) (vs : List (Option Addr × Nat × List Int)) (t : TypeId) (fr : Nat × Nat) (hY : Y.heap[g]? = some (.cells (vs.map fun v => Value.slice v.1 v.2.2.length v.2.1).toArray t fr)) (h : ∀ v ∈ vs, Kd.C (Kd.int .u8) Y v.1 v.2.2.length v.2.2 ∧ v.2.2.length ≤ v.2.1) (hl : vs.length ≤ 100) :
    Kd.C (Kd.slice 5 (Kd.int .u8)) Y (some ⟨g, 0, none⟩) (vs.map (·.2.2)).length (vs.map (·.2.2)) := by
  refine ⟨rfl, by simp; omega, fun _ => ⟨_, rfl, fun j p hp => ?_⟩⟩
  rw [List.getElem?_map] at hp
  obtain ⟨v, hv, rfl⟩ := Option.map_eq_some_iff.1 hp
  have hm := h v (List.mem_of_getElem? hv)
  refine ⟨[.slice v.1 v.2.2.length v.2.1], rfl, ⟨v.1, v.2.1, rfl, hm.2, hm.1⟩, fun i u hu => ?_⟩
  have hi0 : i = 0 := by have := (List.getElem?_eq_some_iff.1 hu).1; simpa using this
  subst hi0
  obtain rfl : Value.slice v.1 v.2.2.length v.2.1 = u := by simpa using hu
  have e : (⟨g, 0, none⟩ : Addr).add (j * (Kd.slice 5 (Kd.int IntKind.u8)).sz + 0) = ⟨g, j, none⟩ := by
    rw [show (Kd.slice 5 (Kd.int IntKind.u8)).sz = 1 from rfl, Nat.mul_one, Nat.add_zero]; exact add_plain _ _
  rw [e, cell_of_row _ _ j _ _ _ hY]
  simp only [List.getElem?_toArray, List.getElem?_map, hv, Option.map_some]
/-- A digest that is read. -/
def SumVal (D : List Int) (v : Value) (w : World) : Prop := ∃ B d, v = .slice B 32 d ∧ Kd.C (Kd.int .u8) w B 32 D ∧ 32 ≤ d
theorem SumVal.sp (D : List Int) : SpBelow (SumVal D) := fun v w w' h hb =>
  let ⟨B, d, e, hC, hd⟩ := h
  ⟨B, d, e, Kd.C_below hC hb, hd⟩
theorem SumVal.below {D : List Int} {v : Value} {w w' : World} (h : SumVal D v w) (hb : Below w.heap.size w w') : SumVal D v w' :=
  let ⟨B, d, e, hC, hd⟩ := h
  ⟨B, d, e, Kd.C_below hC hb, hd⟩
/-- A new row of three, two, one rows. -/
def RowVal (cs : Array Value) (v : Value) (w : World) : Prop := ∃ g, v = .slice (some ⟨g, 0, none⟩) cs.size cs.size ∧ w.heap[g]? = some (.cells cs 22 (0, 0))
theorem RowVal.below {cs : Array Value} {v : Value} {w w' : World} (h : RowVal cs v w) (hb : Below w.heap.size w w') : RowVal cs v w' :=
  let ⟨g, e, hg⟩ := h
  ⟨g, e, (hb.block _ (Array.getElem?_eq_some_iff.1 hg).1).trans hg⟩
theorem RowVal.sp (cs : Array Value) : SpBelow (RowVal cs) := fun _ _ _ h hb => h.below hb
theorem RowVal.new (w : World) (cs : Array Value) : RowVal cs (.slice (some ⟨w.heap.size, 0, none⟩) cs.size cs.size) (w.alloc (.cells cs 22)) := ⟨_, rfl, heap_alloc_new w _⟩
/-- sha.Sum of a row of rows that lies in a known block. -/
theorem sum_of (D : List Int) (w : World) (g : Nat) (vs : List (Option Addr × Nat × List Int)) (hg : w.heap[g]? = some (.cells (vs.map fun v => Value.slice v.1 v.2.2.length v.2.1).toArray 22 (0, 0)))
    (h : ∀ v ∈ vs, Kd.C (Kd.int .u8) w v.1 v.2.2.length v.2.2 ∧ v.2.2.length ≤ v.2.1) (hl : vs.length ≤ 100) (r : List Int) (hr : (vs.map (·.2.2)).flatten = r) (hD : shaL r = D) (hlen : r.length ≤ 1000000) (hb : ∀ x ∈ r, 0 ≤ x ∧ x ≤ 255) (hG : RootsIn w) :
    Calls Tryd.prog 22 #[.slice (some ⟨g, 0, none⟩) vs.length vs.length] w fun e w' => ∃ v, e = .returned v ∧ SumVal D v w' ∧ Below w.heap.size w w' := by
  have hrows := rows_blk w g vs 22 (0, 0) hg h hl
  have hs := sha_Sum_some (l := vs.map (·.2.2)) (by rw [hr]; exact hlen) (by rw [hr]; exact hb)
  rw [hr, hD] at hs
  have := sha_Sum.calls (some ⟨g, 0, none⟩) vs.length (vs.map (·.2.2)) D w hrows (by rw [List.length_map]; exact Nat.le_refl _) hs hG
  rw [List.length_map] at this
  refine this.mono ?_
  rintro e w' ⟨v, rfl, hR, hb'⟩
  obtain ⟨B, d, rfl, hl', hC⟩ := Kd.R_reads hR
  have h32 : D.length = 32 := by rw [← hD]; exact shaL_len r
  rw [h32] at hC hl' ⊢
  exact ⟨_, rfl, ⟨B, d, rfl, hC, hl'⟩, hb'⟩
theorem sum1_of (D : List Int) (X : World) (A0 : Option Addr) (n0 c0 : Nat) (l0 : List Int) (h0 : Kd.C (Kd.int .u8) X A0 n0 l0) (g0 : n0 ≤ c0)
    (hD : shaL l0 = D) (hlen : l0.length ≤ 1000000) (hb : ∀ x ∈ l0, 0 ≤ x ∧ x ≤ 255) (hG : RootsIn X) (v : Value) (hv : RowVal #[.slice A0 n0 c0] v X) :
    Calls Tryd.prog 22 #[v] X fun e w' => ∃ v, e = .returned v ∧ SumVal D v w' ∧ Below X.heap.size X w' := by
  have e0 : l0.length = n0 := h0.1
  subst e0
  obtain ⟨g, rfl, hg⟩ := hv
  exact sum_of D X g [(A0, c0, l0)] hg (by intro v hv; rw [List.mem_singleton] at hv; subst hv; exact ⟨h0, g0⟩) (by simp) l0 (by simp) hD hlen hb hG
theorem sum2_of (D : List Int) (X : World) (A0 : Option Addr) (n0 c0 : Nat) (l0 : List Int) (A1 : Option Addr) (n1 c1 : Nat) (l1 : List Int) (h0 : Kd.C (Kd.int .u8) X A0 n0 l0) (g0 : n0 ≤ c0) (h1 : Kd.C (Kd.int .u8) X A1 n1 l1) (g1 : n1 ≤ c1)
    (r : List Int) (hr : l0 ++ l1 = r) (hD : shaL r = D) (hlen : r.length ≤ 1000000) (hb : ∀ x ∈ r, 0 ≤ x ∧ x ≤ 255) (hG : RootsIn X) (v : Value) (hv : RowVal #[.slice A0 n0 c0, .slice A1 n1 c1] v X) :
    Calls Tryd.prog 22 #[v] X fun e w' => ∃ v, e = .returned v ∧ SumVal D v w' ∧ Below X.heap.size X w' := by
  have e0 : l0.length = n0 := h0.1
  have e1 : l1.length = n1 := h1.1
  subst e0; subst e1
  obtain ⟨g, rfl, hg⟩ := hv
  exact sum_of D X g [(A0, c0, l0), (A1, c1, l1)] hg (by
    intro v hv
    simp only [List.mem_cons, List.mem_nil_iff, or_false] at hv
    rcases hv with rfl | rfl
    · exact ⟨h0, g0⟩
    · exact ⟨h1, g1⟩) (by simp) r (by simpa using hr) hD hlen hb hG
theorem sum3_of (D : List Int) (X : World) (A0 : Option Addr) (n0 c0 : Nat) (l0 : List Int) (A1 : Option Addr) (n1 c1 : Nat) (l1 : List Int) (A2 : Option Addr) (n2 c2 : Nat) (l2 : List Int)
    (h0 : Kd.C (Kd.int .u8) X A0 n0 l0) (g0 : n0 ≤ c0) (h1 : Kd.C (Kd.int .u8) X A1 n1 l1) (g1 : n1 ≤ c1) (h2 : Kd.C (Kd.int .u8) X A2 n2 l2) (g2 : n2 ≤ c2)
    (r : List Int) (hr : l0 ++ (l1 ++ l2) = r) (hD : shaL r = D) (hlen : r.length ≤ 1000000) (hb : ∀ x ∈ r, 0 ≤ x ∧ x ≤ 255) (hG : RootsIn X) (v : Value) (hv : RowVal #[.slice A0 n0 c0, .slice A1 n1 c1, .slice A2 n2 c2] v X) :
    Calls Tryd.prog 22 #[v] X fun e w' => ∃ v, e = .returned v ∧ SumVal D v w' ∧ Below X.heap.size X w' := by
  have e0 : l0.length = n0 := h0.1
  have e1 : l1.length = n1 := h1.1
  have e2 : l2.length = n2 := h2.1
  subst e0; subst e1; subst e2
  obtain ⟨g, rfl, hg⟩ := hv
  exact sum_of D X g [(A0, c0, l0), (A1, c1, l1), (A2, c2, l2)] hg (by
    intro v hv
    simp only [List.mem_cons, List.mem_nil_iff, or_false] at hv
    rcases hv with rfl | rfl | rfl
    · exact ⟨h0, g0⟩
    · exact ⟨h1, g1⟩
    · exact ⟨h2, g2⟩) (by simp) r (by simpa using hr) hD hlen hb hG
theorem made_eq (m : Nat) : madeCells #[Value.int .u8 0] m = ((List.replicate m (0 : Int)).map (Value.int .u8)).toArray := by
  apply Array.ext
  · simp [size_madeCells]
  · intro i h1 h2
    simp [madeCells, Nat.mod_one]
theorem made_C (W : World) (m : Nat) (h : m ≤ 1000) : Kd.C (Kd.int .u8) (W.alloc (.cells (madeCells #[Value.int .u8 0] m) 5)) (some ⟨W.heap.size, 0, none⟩) m (List.replicate m 0) := by
  have := lit_C W (List.replicate m 0) (0, 0) (by rw [List.length_replicate]; exact h)
  rw [← made_eq, List.length_replicate] at this
  exact this
theorem eq8 (a b c d e f g h : Int) (w : World) : (Op.equalIn 10000 25 (.agg #[.int .u32 a, .int .u32 b, .int .u32 c, .int .u32 d, .int .u32 e, .int .u32 f, .int .u32 g, .int .u32 h]) (.agg #[.int .u32 a, .int .u32 b, .int .u32 c, .int .u32 d, .int .u32 e, .int .u32 f, .int .u32 g, .int .u32 h])).run Tryd.prog w = .ok true w := by
  have u3 := Tryd.underlying24
  have a3 := Tryd.isAgg24
  have z3 := Tryd.sizeOf24
  rw [show (10000 : Nat) = 9999 + 1 from rfl, Op.equalIn]
  simp only [Sem.run_bind, run_underlying Tryd.underlying25, Result.andThen_ok]
  simp only [Std.Legacy.Range.forIn_eq_forIn_range', Std.Legacy.Range.size, Nat.sub_zero, Nat.add_sub_cancel, Nat.div_one, List.range'_succ, List.range'_zero, List.forIn_cons, List.forIn_nil]
  go_simp
end Go.Proofs.YtfmdpkilgnccfaaDoor.E
