/- Small lemmas: rows of rows, words of 32 bits, cuts. -/
import Derived.Test.YtfmdpkilgnccfaaDoorF
namespace Go.Proofs.YtfmdpkilgnccfaaDoor.E
open Go.RowKit Go.Proofs.YtfmdpkilgnccfaaDoorW.PrintWords Go.Proofs.YtfmdpkilgnccfaaDoorW.PrintLast Go.Proofs.YtfmdpkilgnccfaaDoorW.PrintMore Go.Proofs.YtfmdpkilgnccfaaDoor.Pr
set_option linter.unusedVariables false
set_option linter.unusedSimpArgs false
theorem lt32 {a b : Nat} (ha : a < 4294967296) (hb : b < 4294967296) : a ^^^ b < 4294967296 := Nat.xor_lt_two_pow (n := 32) ha hb
theorem wraps_u32 (n : Int) (h₀ : 0 ≤ n) (h₁ : n < 2 ^ 32) : IntKind.u32.wrap n = n := by rw [IntKind.wrap_u32]; omega
theorem xor32 (a b : Nat) (ha : a < 4294967296) (hb : b < 4294967296) : bits .xor .u32 (a : Int) (b : Int) = ((a ^^^ b : Nat) : Int) := by
  have hb' : (2 : Nat) ^ IntKind.u32.bits = 4294967296 := rfl
  simp only [bits, BitVec.ofInt_natCast, BitVec.toNat_xor, BitVec.toNat_ofNat, hb', Nat.mod_eq_of_lt ha, Nat.mod_eq_of_lt hb]
  exact wraps_u32 _ (Int.natCast_nonneg _) (by have := lt32 ha hb; omega)
def rdR (xs : List (List Int)) (i : Int) : List Int := xs.getD i.toNat ([] : List Int)
theorem at_LL {w : World} {A : Option Addr} {n : Nat} {xs : List (List Int)} (h : Kd.C (Kd.slice 5 (Kd.int .u8)) w A n xs) (i : Int) (h0 : 0 ≤ i) (h1 : i < n) : ∃ ad A0 c0, A = some ad ∧ w.cell? (ad.add i.toNat) = some (.slice A0 (rdR xs i).length c0) ∧ (rdR xs i).length ≤ c0 ∧ (Kd.int .u8).C w A0 (rdR xs i).length (rdR xs i) := by
  obtain ⟨ad, c, e, _, hK, hc0⟩ := Kd.C_get h ([] : List Int) i h0 h1
  have hc : ∀ j u, c[j]? = some u → w.cell? (ad.add (i.toNat * 1 + j)) = some u := hc0
  obtain ⟨A0, c0, rfl, l0, g0⟩ := hK
  exact ⟨ad, A0, c0, e, by have hq := hc 0 _ rfl; rwa [Nat.mul_one, Nat.add_zero] at hq, l0, g0⟩
theorem take_rd {l : List Int} {k : Nat} (h : k < l.length) : l.take (k + 1) = l.take k ++ [rd l k] := by
  rw [List.take_succ_eq_append_getElem h]; simp [rd, List.getD_eq_getElem?_getD, h]
theorem take_rdR {l : List (List Int)} {k : Nat} (h : k < l.length) : l.take (k + 1) = l.take k ++ [rdR l k] := by
  rw [List.take_succ_eq_append_getElem h]; simp [rdR, List.getD_eq_getElem?_getD, h]
theorem rd_mem {l : List Int} {k : Nat} (h : k < l.length) : rd l k ∈ l := by simp [rd, List.getD_eq_getElem?_getD, h]
theorem rdR_mem {l : List (List Int)} {k : Nat} (h : k < l.length) : rdR l k ∈ l := by simp [rdR, List.getD_eq_getElem?_getD, h]
theorem R_form4 {w : World} {b : Nat} {ok : Nat → Prop} {v : Value} {l : List Int} {n : Nat} (h : Kd.R (Kd.int .u8) 5 w b ok v l) (hn : l.length = n) : ∃ A c, v = .slice A n c := by
  obtain ⟨inner, ho⟩ := Kd.R_own h
  rw [hn] at ho
  exact own_slice ho
theorem Kd.C_empty (A : Option Addr) (w : World) : Kd.C (Kd.int .u8) w A 0 [] := ⟨rfl, by omega, fun h => absurd h (by omega)⟩
theorem C_sub {w : World} {ad : Addr} {l : List Int} (h : Kd.C (Kd.int .u8) w (some ad) l.length l) (i n : Nat) (hi : i + n ≤ l.length) : Kd.C (Kd.int .u8) w (some (ad.add i)) n ((l.drop i).take n) := by
  refine Kd.C_of_reads (d := (0 : Int)) (h1 := fun _ => rfl) ⟨by rw [List.length_take, List.length_drop]; omega, by have := Kd.C_max h; omega, fun hn => ⟨_, rfl, fun j hj => ?_⟩⟩
  obtain ⟨ad', e, hx⟩ := Kd.at_int h ((i + j : Nat) : Int) (by omega) (by omega)
  cases e
  rw [Int.toNat_natCast] at hx
  have e2 : (ad.add i).add j = ad.add (i + j) := Addr.add_add ad i j
  rw [e2, hx]
  congr 2
  simp only [rd, Int.toNat_natCast]
  rw [List.getD_eq_getElem?_getD, List.getD_eq_getElem?_getD, List.getElem?_take, if_pos hj, List.getElem?_drop]
theorem cut_lo {P : Program} (t e : TypeId) (kl : IntKind) (ht : P.underlying t = some (.slice e)) (A : Option Addr) (n c : Nat) (lo : Int) (h0 : 0 ≤ lo) (h2 : lo ≤ n) (hc : n ≤ c) {i : TypeInfo} (hi : P.info? e = some i) (hsz : i.size = 1) :
    ∀ W : World, (Instr.slice t (.slice A n c) (some (.int kl lo)) none none).run P W = .ok (.slice (if c = lo.toNat then A else A.map (·.add (lo.toNat * 1))) (n - lo.toNat) (c - lo.toNat)) W := by
  intro W
  have hel : P.elem t = e := by simp [Program.elem, ht]
  have hu : P.underlying t = some (.slice (P.elem t)) := by rw [hel]; exact ht
  rw [run_slice_l W t A n c hu kl lo h0 h2, hel]
  simp [sizeOf, typeInfo, hi, hsz, sliced, Result.andThen]
theorem strOfNums_inj : ∀ {a b : List Int}, (∀ x ∈ a, 0 ≤ x ∧ x ≤ 255) → (∀ x ∈ b, 0 ≤ x ∧ x ≤ 255) → strOfNums a = strOfNums b → a = b := by
  intro a b ha hb h
  unfold strOfNums at h
  have h2 := congrArg (fun s : ByteArray => s.data.toList) h
  simp only at h2
  have key : ∀ a b : List Int, (∀ x ∈ a, 0 ≤ x ∧ x ≤ 255) → (∀ x ∈ b, 0 ≤ x ∧ x ≤ 255) → a.map (fun x => UInt8.ofNat x.toNat) = b.map (fun x => UInt8.ofNat x.toNat) → a = b := by
    intro a
    induction a with
    | nil => intro b _ _ h; cases b with
      | nil => rfl
      | cons _ _ => simp at h
    | cons x a ih => intro b ha hb h; cases b with
      | nil => simp at h
      | cons y b =>
        simp only [List.map_cons, List.cons.injEq] at h
        have hx := ha x List.mem_cons_self
        have hy := hb y List.mem_cons_self
        have h3 := congrArg UInt8.toNat h.1
        simp only [UInt8.toNat_ofNat'] at h3
        rw [ih b (fun z hz => ha z (List.mem_cons_of_mem _ hz)) (fun z hz => hb z (List.mem_cons_of_mem _ hz)) h.2]
        congr 1
        omega
  exact key a b ha hb (by simpa using h2)
theorem strOfNums_ne {a b : List Int} (ha : ∀ x ∈ a, 0 ≤ x ∧ x ≤ 255) (hb : ∀ x ∈ b, 0 ≤ x ∧ x ≤ 255) (h : a ≠ b) : ((strOfNums a).toList == (strOfNums b).toList) = false :=
  beq_eq_false_iff_ne.2 fun e => h (strOfNums_inj ha hb (ByteArray.ext (Array.toList_inj.1 (by rw [ByteArray.toList_eq, ByteArray.toList_eq] at e; exact e))))
theorem and32 (a b : Nat) (ha : a < 4294967296) (hb : b < 4294967296) : bits .and .u32 (a : Int) (b : Int) = ((a &&& b : Nat) : Int) := (bits_nat .u32 32 (by decide) wraps_u32 a b ha hb).1
theorem or32 (a b : Nat) (ha : a < 4294967296) (hb : b < 4294967296) : bits .or .u32 (a : Int) (b : Int) = ((a ||| b : Nat) : Int) := (bits_nat .u32 32 (by decide) wraps_u32 a b ha hb).2
theorem wf_u64 {a : Int} (h : (Lit.int .u64 a).wf = true) : 0 ≤ a ∧ a < 18446744073709551616 := by
  have : 0 ≤ a ∧ a ≤ 18446744073709551615 := by simpa [Lit.wf, IntKind.min, IntKind.max, IntKind.signed, IntKind.bits] using h
  omega
theorem wf_u32 {a : Int} (h : (Lit.int .u32 a).wf = true) : 0 ≤ a ∧ a < 4294967296 := by
  have : 0 ≤ a ∧ a ≤ 4294967295 := by simpa [Lit.wf, IntKind.min, IntKind.max, IntKind.signed, IntKind.bits] using h
  omega
theorem wf_u16 {a : Int} (h : (Lit.int .u16 a).wf = true) : 0 ≤ a ∧ a ≤ 65535 := by simpa [Lit.wf, IntKind.min, IntKind.max, IntKind.signed, IntKind.bits] using h
theorem wf_u8 {a : Int} (h : (Lit.int .u8 a).wf = true) : 0 ≤ a ∧ a ≤ 255 := by simpa [Lit.wf, IntKind.min, IntKind.max, IntKind.signed, IntKind.bits] using h
theorem w64_succ (p : Nat) (h : p < 9223372036854775807) : wrap64 ((p : Int) + 1) = ((p + 1 : Nat) : Int) := by unfold wrap64; omega
theorem rows_new (W : World) (vs : List (Option Addr × Nat × List Int)) (h : ∀ v ∈ vs, Kd.C (Kd.int .u8) W v.1 v.2.2.length v.2.2 ∧ v.2.2.length ≤ v.2.1) (hl : vs.length ≤ 100) :
    Kd.C (Kd.slice 5 (Kd.int .u8)) (W.alloc (.cells (vs.map fun v => Value.slice v.1 v.2.2.length v.2.1).toArray 22)) (some ⟨W.heap.size, 0, none⟩) (vs.map (·.2.2)).length (vs.map (·.2.2)) := by
  refine ⟨rfl, by simp; omega, fun _ => ⟨_, rfl, fun j p hp => ?_⟩⟩
  rw [List.getElem?_map] at hp
  obtain ⟨v, hv, rfl⟩ := Option.map_eq_some_iff.1 hp
  have hm := h v (List.mem_of_getElem? hv)
  refine ⟨[.slice v.1 v.2.2.length v.2.1], rfl, ⟨v.1, v.2.1, rfl, hm.2, Kd.C_alloc hm.1 _⟩, ?_⟩
  intro i u hu
  match i, hu with
  | 0, hu =>
    simp at hu
    subst hu
    have e : (⟨W.heap.size, 0, none⟩ : Addr).add (j * 1 + 0) = ⟨W.heap.size, j, none⟩ := by rw [Nat.mul_one, Nat.add_zero]; exact add_plain _ _
    rw [show (Kd.slice 5 (Kd.int IntKind.u8)).sz = 1 from rfl, e, blk_cell (heap_alloc_new W _) j]
    simp [hv]
theorem lit_C (w : World) (cs : List Int) (fr : Nat × Nat) (h : cs.length ≤ 1000) : Kd.C (Kd.int .u8) (w.alloc (.cells (cs.map (Value.int .u8)).toArray 5 fr)) (some ⟨w.heap.size, 0, none⟩) cs.length cs := by
  refine Kd.C_of_reads (d := (0 : Int)) (h1 := fun _ => rfl) ⟨rfl, by omega, fun hn => ⟨_, rfl, fun j hj => ?_⟩⟩
  have e : (⟨w.heap.size, 0, none⟩ : Addr).add j = ⟨w.heap.size, j, none⟩ := add_plain _ _
  rw [e, World.cell?_alloc_mark w _ _ fr j]
  simp [List.getD_eq_getElem?_getD, hj]
theorem R_C {w : World} {b : Nat} {ok : Nat → Prop} {A : Option Addr} {m c : Nat} {l : List Int} {n : Nat} (h : Kd.R (Kd.int .u8) 5 w b ok (.slice A m c) l) (hn : l.length = n) : Kd.C (Kd.int .u8) w A n l ∧ n ≤ c := by
  have := Kd.R_reads' h
  subst hn
  exact ⟨this.2.2, this.1 ▸ this.2.1⟩
end Go.Proofs.YtfmdpkilgnccfaaDoor.E
