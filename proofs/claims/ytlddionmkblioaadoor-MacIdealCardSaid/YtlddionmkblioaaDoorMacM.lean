/- The makers of codes, and the law's known. A merge. -/
import Derived.Test.YtlddionmkblioaaDoorPadM
/- mac.Equal, plain. -/
namespace Go.Proofs.YtlddionmkblioaaDoor.E
open Go.RowKit Go.Proofs.YtlddionmkblioaaDoorW.PrintWords Go.Proofs.YtlddionmkblioaaDoorW.PrintLast Go.Proofs.YtlddionmkblioaaDoorW.PrintMore Go.Proofs.YtlddionmkblioaaDoor.Pr
set_option linter.unusedVariables false
set_option linter.unusedSimpArgs false
theorem wraps_u8 (n : Int) (h₀ : 0 ≤ n) (h₁ : n < 2 ^ 8) : IntKind.u8.wrap n = n := by rw [IntKind.wrap_u8]; omega
theorem or8 (a b : Nat) (ha : a < 256) (hb : b < 256) : bits .or .u8 (a : Int) (b : Int) = ((a ||| b : Nat) : Int) := (bits_nat .u8 8 (by decide) wraps_u8 a b ha hb).2
theorem xor_zero {x y : Nat} (h : x ^^^ y = 0) : x = y := by
  apply Nat.eq_of_testBit_eq
  intro i
  have := congrArg (fun z => z.testBit i) h
  simp only [Nat.testBit_xor, Nat.zero_testBit] at this
  revert this
  cases x.testBit i <;> cases y.testBit i <;> simp
theorem or_zero {x y : Nat} (h : x ||| y = 0) : x = 0 ∧ y = 0 := by
  constructor
  · apply Nat.eq_of_testBit_eq
    intro i
    have := congrArg (fun z => z.testBit i) h
    simp only [Nat.testBit_or, Nat.zero_testBit] at this ⊢
    revert this
    cases x.testBit i <;> cases y.testBit i <;> simp
  · apply Nat.eq_of_testBit_eq
    intro i
    have := congrArg (fun z => z.testBit i) h
    simp only [Nat.testBit_or, Nat.zero_testBit] at this ⊢
    revert this
    cases x.testBit i <;> cases y.testBit i <;> simp
theorem eq_loop (a b : List Int) (ha : ∀ x ∈ a, 0 ≤ x ∧ x ≤ 255) (hb : ∀ x ∈ b, 0 ≤ x ∧ x ≤ 255) (hl : a.length = b.length) (hs : a.length < 1000000) : ∀ (d i p k : Nat), i + d = a.length → p < 256 → mac_Equal.l0 (k + d + 1) a b (p : Int) (a.length : Int) (i : Int) = some (decide (p = 0 ∧ a.drop i = b.drop i))
  | 0, i, p, k, hi, hp => by
    simp only [mac_Equal.l0]
    rw [if_neg (by omega), List.drop_eq_nil_of_le (by omega), List.drop_eq_nil_of_le (by omega)]
    congr 1
    by_cases h : p = 0
    · subst h; rfl
    · rw [decide_eq_false (fun hh => h hh.1)]; exact beq_eq_false_iff_ne.2 (by omega)
  | d + 1, i, p, k, hi, hp => by
    obtain ⟨K, hK⟩ : ∃ K, K = k + d + 1 := ⟨_, rfl⟩
    rw [show k + (d + 1) + 1 = K + 1 by omega]
    simp only [mac_Equal.l0]
    rw [hK]
    have hia : i < a.length := by omega
    have hib : i < b.length := by omega
    have hx := ha _ (rd_mem hia)
    have hy := hb _ (rd_mem hib)
    obtain ⟨x, hxe⟩ : ∃ x : Nat, rd a (i : Int) = (x : Int) := ⟨(rd a (i : Int)).toNat, by omega⟩
    obtain ⟨y, hye⟩ : ∃ y : Nat, rd b (i : Int) = (y : Int) := ⟨(rd b (i : Int)).toNat, by omega⟩
    have hx2 : x < 256 := by omega
    have hy2 : y < 256 := by omega
    have hxy : x ^^^ y < 256 := Nat.xor_lt_two_pow (n := 8) hx2 hy2
    rw [if_pos (by omega), if_pos (by omega), if_pos (by omega), if_pos (by omega), hxe, hye, xor8 x y hx2 hy2, or8 p _ hp hxy, w64_succ i (by omega), eq_loop a b ha hb hl hs d (i + 1) (p ||| (x ^^^ y)) k (by omega) (Nat.or_lt_two_pow (n := 8) hp hxy)]
    have da : a.drop i = (x : Int) :: a.drop (i + 1) := by
      rw [List.drop_eq_getElem_cons hia]; congr 1; rw [← hxe]; simp [rd, List.getD_eq_getElem?_getD, hia]
    have db : b.drop i = (y : Int) :: b.drop (i + 1) := by
      rw [List.drop_eq_getElem_cons hib]; congr 1; rw [← hye]; simp [rd, List.getD_eq_getElem?_getD, hib]
    rw [da, db]
    congr 1
    refine decide_eq_decide.2 ⟨?_, ?_⟩
    · rintro ⟨h1, h2⟩
      obtain ⟨h3, h4⟩ := or_zero h1
      refine ⟨h3, ?_⟩
      rw [xor_zero h4, h2]
    · rintro ⟨h1, h2⟩
      injection h2 with h3 h4
      have : x = y := by omega
      subst this
      subst h1
      exact ⟨by simp, h4⟩
theorem equal_some (a b : List Int) (ha : ∀ x ∈ a, 0 ≤ x ∧ x ≤ 255) (hb : ∀ x ∈ b, 0 ≤ x ∧ x ≤ 255) (hs : a.length < 1000000) : mac_Equal.f (a.length + 1) a b = some (decide (a = b)) := by
  unfold mac_Equal.f
  by_cases hl : a.length = b.length
  · rw [if_pos (by omega)]
    have := eq_loop a b ha hb hl hs a.length 0 0 0 (by omega) (by decide)
    rw [Nat.zero_add] at this
    rw [show ((0 : Nat) : Int) = 0 from rfl] at this
    rw [this]
    simp
  · rw [if_neg (by omega), decide_eq_false (fun h => hl (by rw [h]))]
end Go.Proofs.YtlddionmkblioaaDoor.E

/- mac.Ideal: its map of what it made, plain and in the world. -/
namespace Go.Proofs.YtlddionmkblioaaDoor.E
open Go.RowKit Go.Proofs.YtlddionmkblioaaDoorW.PrintWords Go.Proofs.YtlddionmkblioaaDoorW.PrintLast Go.Proofs.YtlddionmkblioaaDoorW.PrintMore Go.Proofs.YtlddionmkblioaaDoor.Pr
set_option linter.unusedVariables false
set_option linter.unusedSimpArgs false
/-- The code of the n-th new message. -/
def idealC (n : Nat) (x : List Int) : List Int := shaL ([105, 100, 101, 97, 108] ++ (beN n 8 ++ x))
theorem idealC_len (n : Nat) (x : List Int) : (idealC n x).length = 32 := shaL_len _
theorem idealC_bytes (n : Nat) (x : List Int) : ∀ y ∈ idealC n x, 0 ≤ y ∧ y ≤ 255 := shaL_bytes _
/-- What was made, the newest first; the code of a message. -/
def icode : List (List Int) → List Int → Option (List Int)
  | [], _ => none
  | m :: r, x => if m = x then some (idealC r.length m) else icode r x
def keyD (x : List Int) : Lit := .string (strOfNums x).data.toList
def valD (x : List Int) : DataW Unit := .lit (.string (strOfNums x).data.toList)
def mD : List (List Int) → DataW Unit
  | [] => .map []
  | m :: r => (mD r).put (keyD m) (valD (idealC r.length m))
theorem keyD_inj {a b : List Int} (ha : ∀ x ∈ a, 0 ≤ x ∧ x ≤ 255) (hb : ∀ x ∈ b, 0 ≤ x ∧ x ≤ 255) (h : keyD a = keyD b) : a = b := by
  unfold keyD at h
  injection h with h
  exact strOfNums_inj ha hb (ByteArray.ext (Array.toList_inj.1 h))
theorem keyD_isKey (x : List Int) : WideAt.IsKeyLit (keyD x) := by unfold keyD; trivial
theorem mD_isMap : ∀ made, Maps.IsMap (mD made)
  | [] => Maps.isMap_empty
  | m :: r => (mD_isMap r).put _ _
def ByteRows (made : List (List Int)) : Prop := ∀ m ∈ made, (∀ x ∈ m, 0 ≤ x ∧ x ≤ 255) ∧ m.length ≤ 900000
theorem mD_has {x : List Int} (hx : ∀ y ∈ x, 0 ≤ y ∧ y ≤ 255) : ∀ made, ByteRows made → Maps.has (mD made) (keyD x) = (icode made x).isSome
  | [], _ => rfl
  | m :: r, h => by
    unfold icode
    by_cases e : m = x
    · subst e
      rw [if_pos rfl]
      exact Maps.has_put_same (mD_isMap r) (keyD_isKey m) _
    · rw [if_neg e]
      rw [← mD_has hx r (fun y hy => h y (List.mem_cons_of_mem _ hy))]
      exact Maps.has_put_other (fun e2 => e (keyD_inj hx (h m List.mem_cons_self).1 e2).symm) _
theorem mD_at {x : List Int} (hx : ∀ y ∈ x, 0 ≤ y ∧ y ≤ 255) (z : List Int) : ∀ made, ByteRows made → (mD made).atKey (keyD x) (valD z) = valD ((icode made x).getD z)
  | [], _ => rfl
  | m :: r, h => by
    unfold icode
    by_cases e : m = x
    · subst e
      rw [if_pos rfl]
      exact Maps.atKey_put_same (mD_isMap r) (keyD_isKey m) _ _
    · rw [if_neg e]
      rw [← mD_at hx z r (fun y hy => h y (List.mem_cons_of_mem _ hy))]
      exact Maps.atKey_put_other (fun e2 => e (keyD_inj hx (h m List.mem_cons_self).1 e2).symm) _ _
theorem icode_none_iff (x : List Int) : ∀ made, icode made x = none ↔ x ∉ made
  | [] => by simp [icode]
  | m :: r => by
    unfold icode
    by_cases e : m = x
    · subst e; simp
    · rw [if_neg e, icode_none_iff x r]
      simp only [List.mem_cons, not_or]
      exact ⟨fun h => ⟨fun e2 => e e2.symm, h⟩, fun h => h.2⟩
theorem mD_tidy : ∀ made, Maps.Tidy (mD made)
  | [] => Maps.tidy_empty
  | m :: r => (mD_tidy r).put (keyD_isKey m) _
theorem mD_size : ∀ made, ByteRows made → made.Nodup → Maps.size (mD made) = made.length
  | [], _, _ => rfl
  | m :: r, h, hn => by
    have h2 : ByteRows r := fun y hy => h y (List.mem_cons_of_mem _ hy)
    have hs : Maps.has (mD r) (keyD m) = false := by
      rw [mD_has (h m List.mem_cons_self).1 r h2, (icode_none_iff m r).2 (List.nodup_cons.1 hn).1]; rfl
    show Maps.size ((mD r).put (keyD m) _) = _
    rw [Maps.size_put (mD_tidy r), hs, mD_size r h2 (List.nodup_cons.1 hn).2]
    rfl
theorem icode_len {made : List (List Int)} {x c : List Int} (h : icode made x = some c) : c.length = 32 ∧ ∀ y ∈ c, 0 ≤ y ∧ y ≤ 255 := by
  induction made with
  | nil => cases h
  | cons m r ih =>
    unfold icode at h
    split at h
    · cases h; exact ⟨idealC_len _ _, idealC_bytes _ _⟩
    · exact ih h
theorem law9 : Maps.Keyed Tryd.prog 9 := Maps.string_keyed Tryd.underlying9
/-- The receiver's block and its map's. -/
def IdealS (p b : Nat) (made : List (List Int)) (X : World) : Prop :=
  X.cell? ⟨p, 0, none⟩ = some (.map (some b)) ∧ X.ownsMap Tryd.prog 9 (plainElem Tryd.prog 9) b made.length (mD made)
theorem IdealS.lt {p b : Nat} {made : List (List Int)} {X : World} (h : IdealS p b made X) : p < X.heap.size ∧ b < X.heap.size := ⟨block_lt_of_cell h.1, h.2.lt⟩
theorem IdealS.kept {p b : Nat} {made : List (List Int)} {X Y : World} (h : IdealS p b made X) (hp : Y.heap[p]? = X.heap[p]?) (hb : Y.heap[b]? = X.heap[b]?) : IdealS p b made Y := by
  refine ⟨?_, ?_⟩
  · rw [← h.1]; unfold World.cell?; rw [hp]
  · obtain ⟨es, clock, h1, h2, h3, h4⟩ := h.2
    exact ⟨es, clock, hb.trans h1, h2, h3, h4⟩
theorem IdealS.below {p b : Nat} {made : List (List Int)} {X Y : World} (h : IdealS p b made X) (hb : Below X.heap.size X Y) : IdealS p b made Y :=
  h.kept (hb.block _ h.lt.1) (hb.block _ h.lt.2)
theorem IdealS.look {p b : Nat} {made : List (List Int)} {X : World} (h : IdealS p b made X) (hm : ByteRows made) (x : List Int) (hx : ∀ y ∈ x, 0 ≤ y ∧ y ≤ 255) (hl : x.length ≤ 900000) :
    (Instr.lookup 41 (.map (some b)) (.string (strOfNums x)) true).run Tryd.prog X = .ok (.tuple #[.string (strOfNums ((icode made x).getD [])), .bool (icode made x).isSome]) X := by
  have hk : keyOf Tryd.prog 9 (.string (strOfNums x)) = some (keyD x) := WideMaps.keyOf_string_mk Tryd.underlying9 (by rw [strOfNums_size]; unfold maxLen; omega)
  have hz : (zeroValue 9).run Tryd.prog X = .ok (.string (strOfNums [])) X := by kernel_rfl
  obtain ⟨v, ps, hrun, hv⟩ := h.2.look_ok law9 Tryd.underlying41 hz (zd := valD []) (zp := []) (plainElem_string Tryd.underlying9 (by rw [strOfNums_size]; unfold maxLen; simp)) hk
  obtain ⟨s, rfl, hs, -⟩ := plainElem_string_inv Tryd.underlying9 hv
  rw [mD_at hx [] made hm, mD_has hx made hm] at *
  have e : s = strOfNums ((icode made x).getD []) := by
    have h1 := congrArg Prod.fst hs
    unfold valD at h1
    simp only [DataW.lit.injEq, Lit.string.injEq] at h1
    exact (ByteArray.ext (Array.toList_inj.1 h1)).symm
  rw [hrun, e]
theorem IdealS.len {p b : Nat} {made : List (List Int)} {X : World} (h : IdealS p b made X) (hm : ByteRows made) (hn : made.Nodup) : (Builtin.len_ #[41] 3 #[.map (some b)]).run Tryd.prog X = .ok (.int .i64 (made.length : Int)) X := by
  rw [h.2.len Tryd.underlying41 3, mD_size made hm hn]
theorem IdealS.store {p b : Nat} {made : List (List Int)} {X : World} (h : IdealS p b made X) (hpb : p ≠ b) (hm : made.length < 1000000) (x : List Int) (hl : x.length ≤ 900000) :
    ∃ Y, (Instr.mapUpdate 41 (.map (some b)) (.string (strOfNums x)) (.string (strOfNums (idealC made.length x)))).run Tryd.prog X = .ok () Y ∧ IdealS p b (x :: made) Y ∧ X.grownBy Y (some b) := by
  have hk : keyOf Tryd.prog 9 (.string (strOfNums x)) = some (keyD x) := WideMaps.keyOf_string_mk Tryd.underlying9 (by rw [strOfNums_size]; unfold maxLen; omega)
  obtain ⟨Y, hrun, ho, hg⟩ := h.2.update law9 Tryd.underlying41 (by unfold maxLen; omega) hk (plainElem_string (H := Unit) Tryd.underlying9 (s := strOfNums (idealC made.length x)) (by rw [strOfNums_size, idealC_len]; unfold maxLen; decide))
  refine ⟨Y, hrun, ⟨?_, ho⟩, hg⟩
  rw [← h.1]; unfold World.cell?; rw [hg.block p h.lt.1 (by simpa using hpb)]
end Go.Proofs.YtlddionmkblioaaDoor.E

/- mac.Ideal, mac.Real and their methods. -/
namespace Go.Proofs.YtlddionmkblioaaDoor.E
open Go.RowKit Go.Proofs.YtlddionmkblioaaDoorW.PrintWords Go.Proofs.YtlddionmkblioaaDoorW.PrintLast Go.Proofs.YtlddionmkblioaaDoorW.PrintMore Go.Proofs.YtlddionmkblioaaDoor.Pr
set_option linter.unusedVariables false
set_option linter.unusedSimpArgs false
def RowPost (H : List Int) (X : World) (e : Ending) (w' : World) : Prop := ∃ v, e = .returned v ∧ Kd.R (Kd.int .u8) 5 w' X.heap.size (fun _ => True) v H ∧ Below X.heap.size X w'
def BoolPost (b : Bool) (X : World) (e : Ending) (w' : World) : Prop := e = .returned (.bool b) ∧ Below X.heap.size X w'
def IdealPost (X : World) (e : Ending) (w' : World) : Prop := ∃ p b, e = .returned (.iface 40 (.pointer (some ⟨p, 0, none⟩))) ∧ p ≠ b ∧ X.heap.size ≤ p ∧ X.heap.size ≤ b ∧ IdealS p b [] w' ∧ Below X.heap.size X w'
set_option maxRecDepth 100000 in
theorem ideal_any (W : World) : Calls Tryd.prog 6 #[] W (IdealPost W) := by
  have hmm := @run_makeMap Tryd.prog
  go_enter Tryd.func6, Tryd.ntmps6
  go_wp2
  go_ret
  refine ⟨W.heap.size + 1, W.heap.size, rfl, by omega, by omega, Nat.le_refl _, ⟨?_, ?_⟩, ((Below.refl _ W).alloc (Nat.le_refl _) _).alloc (by simp) _⟩
  · have := heap_alloc_new (W.alloc (.map #[] 0)) (.cells #[.map (some W.heap.size)] 43)
    rw [World.size_alloc] at this
    exact cell_of_row _ _ 0 _ _ _ this
  · exact (World.ownsMap_made W Tryd.prog 9 (plainElem (H := Unit) Tryd.prog 9)).alloc _
end Go.Proofs.YtlddionmkblioaaDoor.E

/- The methods of mac.ideal. -/
namespace Go.Proofs.YtlddionmkblioaaDoor.E
open Go.RowKit Go.Proofs.YtlddionmkblioaaDoorW.PrintWords Go.Proofs.YtlddionmkblioaaDoorW.PrintLast Go.Proofs.YtlddionmkblioaaDoorW.PrintMore Go.Proofs.YtlddionmkblioaaDoor.Pr
set_option linter.unusedVariables false
set_option linter.unusedSimpArgs false
/-- A row in a block of its own, that may be written. -/
def NewRow (n0 : Nat) (H : List Int) (v : Value) (w : World) : Prop :=
  ∃ g d lo hi cells, v = .slice (some ⟨g, 0, none⟩) H.length d ∧ n0 ≤ g ∧ w.heap[g]? = some (.cells cells 5 (lo, hi)) ∧ (hi = 0 ∨ H.length ≤ lo) ∧ H.length ≤ d ∧ Kd.C (Kd.int .u8) w (some ⟨g, 0, none⟩) H.length H
theorem NewRow.of_R {n0 : Nat} {H : List Int} {v : Value} {w : World} (h : Kd.R (Kd.int .u8) 5 w n0 (fun _ => True) v H) (hl : 0 < H.length) : NewRow n0 H v w := by
  obtain ⟨g, d, rfl, h1, h2, cells, h3⟩ := Kd.R_form h hl
  have h4 := Kd.R_reads' h
  exact ⟨g, d, 0, 0, cells, rfl, h1, h3, .inl rfl, h4.2.1, h4.2.2⟩
theorem NewRow.rowB {n0 : Nat} {H : List Int} {v : Value} {w : World} (h : NewRow n0 H v w) : RowB H v w := by
  obtain ⟨g, d, lo, hi, cells, rfl, -, -, -, h5, h6⟩ := h
  exact ⟨_, d, rfl, h6, h5⟩
theorem bytesOf_str (H : List Int) (h : ∀ x ∈ H, 0 ≤ x ∧ x ≤ 255) : bytesOf (strOfNums H) = H := by
  unfold bytesOf strOfNums
  simp only
  induction H with
  | nil => rfl
  | cons x t ih =>
    have hx := h x List.mem_cons_self
    have := ih (fun y hy => h y (List.mem_cons_of_mem _ hy))
    simp only [List.map_cons, List.map_map, List.cons.injEq] at this ⊢
    refine ⟨?_, this⟩
    show ((UInt8.ofNat x.toNat).toNat : Int) = x
    rw [UInt8.toNat_ofNat']
    omega
theorem NewRow.conv (X : World) (H : List Int) (h : ∀ x ∈ H, 0 ≤ x ∧ x ≤ 255) (hl : H.length ≤ 1000000) :
    NewRow X.heap.size H (.slice (some ⟨X.heap.size, 0, none⟩) H.length (grownCap X H.length 0 5)) (Lib.bytesWorld X 5 (strOfNums H)) ∧ Below X.heap.size X (Lib.bytesWorld X 5 (strOfNums H)) := by
  have hs : (strOfNums H).size = H.length := strOfNums_size H
  have hr := bytes_reads X 5 (strOfNums H) (by rw [hs]; omega)
  rw [hs, bytesOf_str H h] at hr
  refine ⟨⟨X.heap.size, _, _, _, _, rfl, Nat.le_refl _, Lib.bytesWorld_at_new X 5 (strOfNums H), .inr ?_, grownCap_ge _ _ _ _, Kd.C_of_reads (d := (0 : Int)) (h1 := fun _ => rfl) (readsInt_of.1 hr)⟩, bytes_below (Below.refl _ X) (Nat.le_refl _) 5 _⟩
  show H.length ≤ (Lib.bytesCells X 5 (strOfNums H)).size
  unfold Lib.bytesCells
  rw [Array.size_append, Array.size_map]
  have : (strOfNums H).data.size = H.length := hs
  omega
def NewPost (H : List Int) (X : World) (e : Ending) (w' : World) : Prop := ∃ v, e = .returned v ∧ NewRow X.heap.size H v w' ∧ Below X.heap.size X w'
def MakePost2 (p b : Nat) (made : List (List Int)) (x : List Int) (X : World) (e : Ending) (w' : World) : Prop := ∃ v, e = .returned v ∧ NewRow X.heap.size (idealC made.length x) v w' ∧ IdealS p b (x :: made) w' ∧ X.grownBy w' (some b)
theorem conv9 (X : World) (H : List Int) : (convert 9 24 (.string (strOfNums H))).run Tryd.prog X = .ok (.slice (some ⟨X.heap.size, 0, none⟩) H.length (grownCap X H.length 0 5)) (Lib.bytesWorld X 5 (strOfNums H)) := by
  rw [print_bytes 9 24 5 Tryd.underlying9 Tryd.underlying24 Tryd.underlying5, strOfNums_size]
set_option maxRecDepth 100000 in
set_option maxHeartbeats 4000000 in
theorem imake_old (p b : Nat) (made : List (List Int)) (A1 : Option Addr) (c1 : Nat) (l1 : List Int) (W : World) (hI : IdealS p b made W) (hpb : p ≠ b) (hM : ByteRows made)
    (hr1 : Kd.C (Kd.int .u8) W A1 l1.length l1) (hc1 : l1.length ≤ c1) (hb1 : ∀ x ∈ l1, 0 ≤ x ∧ x ≤ 255) (hl1 : l1.length ≤ 900000) (c : List Int) (hc : icode made l1 = some c) :
    Calls Tryd.prog 53 #[.pointer (some ⟨p, 0, none⟩), .slice A1 l1.length c1] W (NewPost c W) := by
  have hcell := hI.1
  have hlook := (hI.below (Below.refl _ W).drew).look hM l1 hb1 hl1
  rw [hc] at hlook
  simp only [Option.getD_some, Option.isSome_some] at hlook
  have hst := Kd.C_string (P := Tryd.prog) (c := c1) Tryd.underlying24 Tryd.underlying5 Tryd.underlying9 (Kd.C_below hr1 (Below.refl _ W).drew)
  have hcv := conv9
  have hcl := icode_len hc
  have HNR := Aside0.mk (NewRow.conv W.drew c hcl.2 (by rw [hcl.1]; decide))
  have HBD := Aside0.mk (Below.refl W.heap.size W).drew
  clear hr1 hI hb1 hM hcl
  go_enter Tryd.func53, Tryd.ntmps53
  go_wp2
  go_region
  go_wp2
  go_ret
  exact ⟨_, rfl, HNR.out.1, below_step HBD.out HNR.out.2⟩
set_option maxRecDepth 100000 in
set_option maxHeartbeats 4000000 in
theorem iprove_any (p b : Nat) (made : List (List Int)) (A1 : Option Addr) (c1 : Nat) (l1 : List Int) (W : World) (hI : IdealS p b made W) (hpb : p ≠ b) (hM : ByteRows made)
    (hr1 : Kd.C (Kd.int .u8) W A1 l1.length l1) (hc1 : l1.length ≤ c1) (hb1 : ∀ x ∈ l1, 0 ≤ x ∧ x ≤ 255) (hl1 : l1.length ≤ 900000) (A2 : Option Addr) (c2 : Nat) (l2 : List Int) (hr2 : Kd.C (Kd.int .u8) W A2 l2.length l2) (hc2 : l2.length ≤ c2) (hb2 : ∀ x ∈ l2, 0 ≤ x ∧ x ≤ 255) :
    Calls Tryd.prog 54 #[.pointer (some ⟨p, 0, none⟩), .slice A1 l1.length c1, .slice A2 l2.length c2] W (BoolPost (decide (icode made l1 = some l2)) W) := by
  have hcell := hI.1
  have hlook := (hI.below (Below.refl _ W).drew).look hM l1 hb1 hl1
  have hst := Kd.C_string (P := Tryd.prog) (c := c1) Tryd.underlying24 Tryd.underlying5 Tryd.underlying9 (Kd.C_below hr1 (Below.refl _ W).drew)
  have HBD := Aside0.mk (Below.refl W.heap.size W).drew
  cases hic : icode made l1 with
  | none =>
    rw [hic] at hlook
    simp only [Option.getD_none, Option.isSome_none] at hlook
    rw [decide_eq_false (by simp)]
    clear hr1 hI hb1 hM hr2 hb2 hic
    go_enter Tryd.func54, Tryd.ntmps54
    go_wp2
    go_region
    go_wp2
    go_ret
    exact ⟨rfl, HBD.out⟩
  | some c =>
    rw [hic] at hlook
    simp only [Option.getD_some, Option.isSome_some] at hlook
    have hcl := icode_len hic
    have hnr := NewRow.conv W.drew c hcl.2 (by rw [hcl.1]; decide)
    have hbb := below_step HBD.out hnr.2
    obtain ⟨g, d, lo, hi, cells, e0, -, -, -, hd0, hC0⟩ := hnr.1
    have he := mac_Equal.calls (c.length + 1) (some ⟨W.drew.heap.size, 0, none⟩) (grownCap W.drew c.length 0 5) c A2 c2 l2 (decide (c = l2)) (Lib.bytesWorld W.drew 5 (strOfNums c)) (by
      injection e0 with e1 e2 e3
      rw [e1]; exact hC0) (grownCap_ge _ _ _ _) (Kd.C_below hr2 hbb) hc2 (equal_some c l2 hcl.2 hb2 (by rw [hcl.1]; decide))
    have HE := Aside0.mk he
    have HBB := Aside0.mk hbb
    have hcv := conv9
    have e : decide (some c = some l2) = decide (c = l2) := by simp
    rw [e]
    clear hr1 hI hb1 hM hr2 hb2 hic hcl e hnr e0 hd0 hC0 he hbb
    go_enter Tryd.func54, Tryd.ntmps54
    go_wp2
    go_region
    go_wp2_with (go_at_call 55; (go_loud (refine (HE.out).mono ?_); rintro e w2 ⟨rfl, hdr⟩); have HDR := Aside0.mk (below_step HBB.out hdr.below); clear hdr)
    go_ret
    exact ⟨rfl, HDR.out⟩
set_option maxRecDepth 100000 in
set_option maxHeartbeats 8000000 in
theorem imake_new (p b : Nat) (made : List (List Int)) (A1 : Option Addr) (c1 : Nat) (l1 : List Int) (W : World) (hI : IdealS p b made W) (hpb : p ≠ b) (hM : ByteRows made)
    (hr1 : Kd.C (Kd.int .u8) W A1 l1.length l1) (hc1 : l1.length ≤ c1) (hb1 : ∀ x ∈ l1, 0 ≤ x ∧ x ≤ 255) (hl1 : l1.length ≤ 900000) (hn : made.Nodup) (hml : made.length < 1000000) (hG : RootsIn W) (hWb : b < W.heap.size) (hc : icode made l1 = none) :
    Calls Tryd.prog 53 #[.pointer (some ⟨p, 0, none⟩), .slice A1 l1.length c1] W (MakePost2 p b made l1 W) := by
  have hcell := hI.1
  have hlook := (hI.below (Below.refl _ W).drew).look hM l1 hb1 hl1
  rw [hc] at hlook
  simp only [Option.getD_none, Option.isSome_none] at hlook
  have hst := Kd.C_string (P := Tryd.prog) (c := c1) Tryd.underlying24 Tryd.underlying5 Tryd.underlying9 (Kd.C_below hr1 (Below.refl _ W).drew)
  have kc : ∀ (w : World) (C : Array Value) (n c : Nat), (convert 24 24 (.slice (some ⟨w.heap.size, 0, none⟩) n c)).run Tryd.prog (w.alloc (.cells C 5)).drew = .ok (.slice (some ⟨w.heap.size, 0, none⟩) n c) (w.alloc (.cells C 5 (C.size, C.size + 1))).drew :=
    fun (w : World) (C : Array Value) (n c : Nat) => Lib.run_convert_bytes_const (P := Tryd.prog) w.drew 24 5 C n c Tryd.underlying24 Tryd.underlying5
  have hlit := lit_C W.drew [105, 100, 101, 97, 108] (5, 6) (by simp)
  have hbl := ((Below.refl W.heap.size W).alloc (Nat.le_refl _) (.cells ([105, 100, 101, 97, 108].map (Value.int .u8)).toArray 5 (5, 6))).drew
  have hcell2 : ∀ o, (W.alloc o).cell? ⟨p, 0, none⟩ = some (.map (some b)) := fun o => pw_cell_below ((Below.refl W.heap.size W).alloc (Nat.le_refl _) o) hI.1
  obtain ⟨D, hD⟩ : ∃ D, D = idealC made.length l1 := ⟨_, rfl⟩
  have D32 : D.length = 32 := by rw [hD]; exact idealC_len _ _
  have DB : ∀ x ∈ D, 0 ≤ x ∧ x ≤ 255 := by rw [hD]; exact idealC_bytes _ _
  have HD := Aside0.mk hD
  have hsz := mD_size made hM hn
  have HI := Aside0.mk hI
  have HR1 := Aside0.mk hr1
  have HB1 := Aside0.mk hb1
  have HM := Aside0.mk hM
  have HLIT := Aside0.mk hlit
  have HBL := Aside0.mk hbl
  have HG := Aside0.mk hG
  have HSZ := Aside0.mk hsz
  have HPUT := Aside0.mk (fun X : World => num_Put.calls 9 (made.length : Int) 8 (beN made.length 8) X (put8 made.length))
  clear hr1 hI hb1 hM hlit hbl hG hsz hD
  go_enter Tryd.func53, Tryd.ntmps53
  go_wp2
  go_region
  go_wp2_with (at_len; refine wpList_len_own _ rfl _ 41 rfl 9 9 Tryd.underlying41 _ b made.length (mD made) rfl (HI.out.2.alloc _).drew ?_; rw [HSZ.out])
  go_wp2_with (go_at_call 22; ((with_reducible refine (HPUT.out _).mono ?_)))
  rintro e w1 ⟨v1, rfl, hR1, hb1⟩
  have hbn : (beN made.length 8).length = 8 := rfl
  obtain ⟨B1, d1, rfl⟩ := R_form4 hR1 hbn
  have h1 := Kd.R_reads' hR1
  rw [hbn] at h1
  have hbb : ∀ x ∈ beN made.length 8, 0 ≤ x ∧ x ≤ 255 := beN_BL _ _
  have hW1 := below_step HBL.out hb1
  have hs3 : Calls Tryd.prog 13 #[.slice (some ⟨w1.heap.size, 0, none⟩) 3 3] (w1.alloc (.cells #[.slice (some ⟨W.heap.size, 0, none⟩) 5 5, .slice B1 8 d1, .slice A1 l1.length c1] 24)) (SumPost (w1.alloc (.cells #[.slice (some ⟨W.heap.size, 0, none⟩) 5 5, .slice B1 8 d1, .slice A1 l1.length c1] 24)) D) := by
    rw [HD.out]
    exact sum3 w1 (some ⟨W.heap.size, 0, none⟩) 5 5 [105, 100, 101, 97, 108] B1 8 d1 (beN made.length 8) A1 l1.length c1 l1 (Kd.C_alloc (Kd.C_below HLIT.out hb1) _) (by decide) (Kd.C_alloc h1.2.2 _) h1.2.1 (Kd.C_alloc (Kd.C_below HR1.out hW1) _) hc1 _ rfl (by rw [List.length_append, List.length_append, hbn]; simp; omega) (bytes_app (by decide) (bytes_app hbb HB1.out)) (HG.out.below rfl (hW1.alloc hW1.size _))
  have hWA := hW1.alloc hW1.size (.cells #[.slice (some ⟨W.heap.size, 0, none⟩) 5 5, .slice B1 8 d1, .slice A1 l1.length c1] 24)
  have HS3 := Aside0.mk hs3
  have HWA := Aside0.mk hWA
  clear hR1 hb1 h1 hbb hW1 hs3 hWA hcell hcell2 hlook hst kc
  go_wp2_with (go_at_call 13; ((with_reducible refine (HS3.out).mono ?_)))
  rintro e w2 ⟨v2, rfl, hR2, hb2⟩
  obtain ⟨B2, d2, rfl⟩ := R_form4 hR2 D32
  have h2 := Kd.R_reads' hR2
  rw [D32] at h2
  have hW2 := below_step HWA.out hb2
  have hst2 := Kd.C_string (P := Tryd.prog) (c := d2) Tryd.underlying24 Tryd.underlying5 Tryd.underlying9 h2.2.2
  have hI2 := HI.out.below hW2
  have hcell := hI2.1
  have hst := Kd.C_string (P := Tryd.prog) (c := c1) Tryd.underlying24 Tryd.underlying5 Tryd.underlying9 (Kd.C_below HR1.out hW2.drew)
  obtain ⟨Y, hupd, hIY, hgr⟩ := (hI2.below (Below.refl _ w2).drew).store hpb hml l1 hl1
  rw [← HD.out] at hupd
  have hcv := conv9
  have hnr := NewRow.conv Y D DB (by rw [D32]; decide)
  rw [D32] at hnr
  have HIY := Aside0.mk hIY
  have HGR := Aside0.mk hgr
  have HNR := Aside0.mk hnr
  have HW2 := Aside0.mk hW2
  clear hR2 hb2 h2 hW2 hI2 hIY hgr hnr DB
  go_wp2
  go_region
  go_wp2
  have hD := HD.out
  go_ret
  have hgW : W.grownBy w2.drew (some b) := ⟨HW2.out.drew.os, HW2.out.drew.tape, HW2.out.drew.output, HW2.out.drew.size, fun k hk _ => HW2.out.drew.block k hk⟩
  have hgY : Y.grownBy (Lib.bytesWorld Y 5 (strOfNums D)) (some b) := ⟨HNR.out.2.os, HNR.out.2.tape, HNR.out.2.output, HNR.out.2.size, fun k hk _ => HNR.out.2.block k hk⟩
  have hge : W.heap.size ≤ Y.heap.size := (hgW.trans HGR.out).size
  obtain ⟨g, d, lo, hi, cells, e0, e1, e2, e3, e4, e5⟩ := HNR.out.1
  refine ⟨.slice (some ⟨Y.heap.size, 0, none⟩) 32 (grownCap Y 32 0 5), ?_, ?_, HIY.out.below HNR.out.2, (hgW.trans HGR.out).trans hgY⟩
  · first | rfl | rw [D32]
  · rw [← hD]
    exact ⟨g, d, lo, hi, cells, by rw [← e0], Nat.le_trans hge e1, e2, e3, e4, e5⟩
end Go.Proofs.YtlddionmkblioaaDoor.E

/- known of chapter 3. -/
namespace Go.Proofs.YtlddionmkblioaaDoor.E
open Go.RowKit Go.Proofs.YtlddionmkblioaaDoorW.PrintWords Go.Proofs.YtlddionmkblioaaDoorW.PrintLast Go.Proofs.YtlddionmkblioaaDoorW.PrintMore Go.Proofs.YtlddionmkblioaaDoor.Pr
set_option linter.unusedVariables false
set_option linter.unusedSimpArgs false
theorem code_jefe : codeL [74, 101, 102, 101] [119, 104, 97, 116, 32, 100, 111, 32, 121, 97, 32, 119, 97, 110, 116, 32, 102, 111, 114, 32, 110, 111, 116, 104, 105, 110, 103, 63] = [91, 220, 193, 70, 191, 96, 117, 78, 106, 4, 36, 38, 8, 149, 117, 199, 90, 0, 63, 8, 157, 39, 57, 131, 157, 236, 88, 185, 100, 236, 56, 67] := by decide +kernel
set_option maxRecDepth 100000 in
set_option maxHeartbeats 8000000 in
theorem known3 (w : World) (hG : RootsIn w) : Calls Tryd.prog 5 #[] w fun e w' => e = .returned (.bool true) ∧ Below w.heap.size w w' := by
  have kc := fun (w : World) (C : Array Value) (n c : Nat) => Lib.run_convert_bytes_const (P := Tryd.prog) w 24 5 C n c Tryd.underlying24 Tryd.underlying5
  have hna := fun (a : Addr) (w : World) => (by kernel_rfl : (nilAhead 190 40 (.pointer (some a)) "Make").run Tryd.prog w = .ok (some false) w)
  have hnp := fun (a : Addr) (w : World) => (by kernel_rfl : (nilAhead 190 40 (.pointer (some a)) "Prove").run Tryd.prog w = .ok (some false) w)
  have hma := fun (a : Addr) (w : World) => (by kernel_rfl : (method 190 40 (.pointer (some a)) "Make").run Tryd.prog w = .ok (53, .pointer (some a)) w)
  have hmp := fun (a : Addr) (w : World) => (by kernel_rfl : (method 190 40 (.pointer (some a)) "Prove").run Tryd.prog w = .ok (54, .pointer (some a)) w)
  have hpw := lit_C w [74, 101, 102, 101] (4, 5) (by simp)
  have hsa := lit_C (w.alloc (.cells ([74, 101, 102, 101].map (Value.int .u8)).toArray 5 (4, 5))) [119, 104, 97, 116, 32, 100, 111, 32, 121, 97, 32, 119, 97, 110, 116, 32, 102, 111, 114, 32, 110, 111, 116, 104, 105, 110, 103, 63] (28, 29) (by simp)
  have HB2 := Aside0.mk (((Below.refl _ w).alloc (Nat.le_refl _) (.cells ([74, 101, 102, 101].map (Value.int .u8)).toArray 5 (4, 5))).alloc (by simp) (.cells ([119, 104, 97, 116, 32, 100, 111, 32, 121, 97, 32, 119, 97, 110, 116, 32, 102, 111, 114, 32, 110, 111, 116, 104, 105, 110, 103, 63].map (Value.int .u8)).toArray 5 (28, 29)))
  have hH := code_any (some ⟨w.heap.size, 0, none⟩) 4 [74, 101, 102, 101] (some ⟨w.heap.size + 1, 0, none⟩) 28 [119, 104, 97, 116, 32, 100, 111, 32, 121, 97, 32, 119, 97, 110, 116, 32, 102, 111, 114, 32, 110, 111, 116, 104, 105, 110, 103, 63] ((w.alloc (.cells ([74, 101, 102, 101].map (Value.int .u8)).toArray 5 (4, 5))).alloc (.cells ([119, 104, 97, 116, 32, 100, 111, 32, 121, 97, 32, 119, 97, 110, 116, 32, 102, 111, 114, 32, 110, 111, 116, 104, 105, 110, 103, 63].map (Value.int .u8)).toArray 5 (28, 29)))
    (Kd.C_alloc hpw _) (by decide) (by decide) (by decide) (by simpa using hsa) (by decide) (by decide) (by decide) (hG.below rfl HB2.out)
  rw [code_jefe] at hH
  have HH : Aside0 (Calls Tryd.prog 9 #[.slice (some ⟨w.heap.size, 0, none⟩) 4 4, .slice (some ⟨w.heap.size + 1, 0, none⟩) 28 28] ((w.alloc (.cells ([74, 101, 102, 101].map (Value.int .u8)).toArray 5 (4, 5))).alloc (.cells ([119, 104, 97, 116, 32, 100, 111, 32, 121, 97, 32, 119, 97, 110, 116, 32, 102, 111, 114, 32, 110, 111, 116, 104, 105, 110, 103, 63].map (Value.int .u8)).toArray 5 (28, 29))) (RowPost [91, 220, 193, 70, 191, 96, 117, 78, 106, 4, 36, 38, 8, 149, 117, 199, 90, 0, 63, 8, 157, 39, 57, 131, 157, 236, 88, 185, 100, 236, 56, 67] ((w.alloc (.cells ([74, 101, 102, 101].map (Value.int .u8)).toArray 5 (4, 5))).alloc (.cells ([119, 104, 97, 116, 32, 100, 111, 32, 121, 97, 32, 119, 97, 110, 116, 32, 102, 111, 114, 32, 110, 111, 116, 104, 105, 110, 103, 63].map (Value.int .u8)).toArray 5 (28, 29))))) := ⟨hH⟩
  have kc2 := kc (w.alloc (.cells ([74, 101, 102, 101].map (Value.int .u8)).toArray 5 (4, 5))) ([119, 104, 97, 116, 32, 100, 111, 32, 121, 97, 32, 119, 97, 110, 116, 32, 102, 111, 114, 32, 110, 111, 116, 104, 105, 110, 103, 63].map (Value.int .u8)).toArray 28 28
  simp only [World.size_alloc, List.map_cons, List.map_nil] at kc2
  simp only [List.map_cons, List.map_nil] at HH HB2
  have HG := Aside0.mk hG
  clear hpw hsa hH hG
  go_enter Tryd.func5, Tryd.ntmps5
  go_wp2_with (go_at_call 9; go_loud (refine (HH.out).mono ?_))
  rintro e w1 ⟨v1, rfl, hR1, hb⟩
  obtain ⟨B, d, rfl⟩ := R_form4 hR1 (show List.length [91, 220, 193, 70, 191, 96, 117, 78, 106, 4, 36, 38, 8, 149, 117, 199, 90, 0, 63, 8, 157, 39, 57, 131, 157, 236, 88, 185, 100, 236, 56, 67] = 32 from rfl)
  have hC := (Kd.R_reads' hR1).2.2
  have HB := Aside0.mk (HB2.out.trans (hb.mono (by simp; omega)))
  obtain ⟨ad, rfl, h0⟩ := Kd.at_int hC 0 (by decide) (by decide)
  have HCC := Aside0.mk hC
  clear h0 hC hb hR1
  go_wp2_with (go_at_call 6; ((with_reducible refine (ideal_any _).mono ?_)))
  rintro e w2 ⟨p, b, rfl, hpb, hp, hbb, hI, hb2⟩
  have HB2 := Aside0.mk (below_step HB.out hb2)
  have HI := Aside0.mk hI
  have hb12 := hb2
  clear hI hb2
  have hl97 := lit_C w2 [97] (1, 2) (by simp)
  have hbA := HB2.out.alloc HB2.out.size (.cells ([97].map (Value.int .u8)).toArray 5 (1, 2))
  have hIA := HI.out.below ((Below.refl w2.heap.size w2).alloc (Nat.le_refl _) (.cells ([97].map (Value.int .u8)).toArray 5 (1, 2)))
  have hmk := imake_new p b [] (some ⟨w2.heap.size, 0, none⟩) 1 [97] _ hIA hpb (by intro m hm; cases hm) hl97 (by decide) (by decide) (by decide) (List.nodup_nil) (by decide) (HG.out.below rfl hbA) hIA.lt.2 rfl
  obtain ⟨E, hE⟩ : ∃ E, E = idealC ([] : List (List Int)).length [97] := ⟨_, rfl⟩
  have hE1 : icode [[97]] [97] = some E := by rw [hE]; rfl
  have hE2 : icode [[97]] [98] = none := rfl
  have E32 : E.length = 32 := by rw [hE]; exact idealC_len _ _
  have EB : ∀ x ∈ E, 0 ≤ x ∧ x ≤ 255 := by rw [hE]; exact idealC_bytes _ _
  have HMK : Aside0 (Calls Tryd.prog 53 #[.pointer (some ⟨p, 0, none⟩), .slice (some ⟨w2.heap.size, 0, none⟩) 1 1] (w2.alloc (.cells #[.int .u8 97] 5 (1, 2))) (MakePost2 p b [] [97] (w2.alloc (.cells #[.int .u8 97] 5 (1, 2))))) := ⟨hmk⟩
  have HBA := Aside0.mk hbA
  have HE := Aside0.mk hE
  have HPB := Aside0.mk hpb
  have HLO := Aside0.mk (show w1.heap.size ≤ p ∧ w1.heap.size ≤ b from ⟨hp, hbb⟩)
  have HAB := Aside0.mk hb12
  clear hl97 hbA hIA hmk hE hpb hp hbb hb12
  go_wp2_with (go_at_call 53; go_loud (refine (HMK.out).mono ?_))
  rintro e w3 ⟨v3, rfl, hNR, hI3, hgr⟩
  have hW3 := (HAB.out.alloc HAB.out.size (.cells #[.int .u8 97] 5 (1, 2))).grown hgr (by have := HAB.out.size; rw [World.size_alloc]; omega) (fun j hj => by cases hj; exact HLO.out.2)
  have hw3 := HB.out.trans (hW3.mono HB.out.size)
  obtain ⟨g, dd, lo, hi, cells, rfl, hgl, -, -, hdd, hCE⟩ := hNR
  rw [← HE.out, E32] at hCE hdd ⊢
  have hC3 := Kd.C_below HCC.out hW3
  obtain ⟨_, ea, h0⟩ := Kd.at_int hC3 0 (by decide) (by decide)
  cases ea
  obtain ⟨_, e1, h1⟩ := Kd.at_int hC3 1 (by decide) (by decide)
  obtain ⟨_, e31, h31⟩ := Kd.at_int hC3 31 (by decide) (by decide)
  cases e1; cases e31
  have g0 : w3.cell? ad = some (.int .u8 91) := by have := h0; rwa [show (0 : Int).toNat = 0 from rfl, Addr.add_zero'] at this
  have g1 : w3.cell? ⟨ad.block, ad.off + 1, none⟩ = some (.int .u8 220) := by have := h1; rwa [show (1 : Int).toNat = 0 + 1 from rfl, Addr.add_succ'] at this
  have g31 : w3.cell? ⟨ad.block, ad.off + 31, none⟩ = some (.int .u8 67) := by have := h31; rwa [show (31 : Int).toNat = 30 + 1 from rfl, Addr.add_succ'] at this
  have hl97 := lit_C w3 [97] (1, 2) (by simp)
  have hbA := hw3.alloc hw3.size (.cells ([97].map (Value.int .u8)).toArray 5 (1, 2))
  have hstep := ((Below.refl w3.heap.size w3).alloc (Nat.le_refl _) (.cells ([97].map (Value.int .u8)).toArray 5 (1, 2)))
  have hIA := hI3.below hstep
  have hByte : ByteRows [[97]] := by intro m hm; cases List.mem_singleton.1 hm; exact ⟨by decide, by decide⟩
  have hp1 := iprove_any p b [[97]] (some ⟨w3.heap.size, 0, none⟩) 1 [97] _ hIA HPB.out hByte hl97 (by decide) (by decide) (by decide) (some ⟨g, 0, none⟩) dd E (by rw [E32]; exact Kd.C_below hCE hstep) (by rw [E32]; exact hdd) EB
  rw [hE1, decide_eq_true rfl, E32] at hp1
  have HP1 : Aside0 (Calls Tryd.prog 54 #[.pointer (some ⟨p, 0, none⟩), .slice (some ⟨w3.heap.size, 0, none⟩) 1 1, .slice (some ⟨g, 0, none⟩) 32 dd] (w3.alloc (.cells #[.int .u8 97] 5 (1, 2))) (BoolPost true (w3.alloc (.cells #[.int .u8 97] 5 (1, 2))))) := ⟨hp1⟩
  have HBA := Aside0.mk hbA
  have HIA := Aside0.mk hIA
  have HCE := Aside0.mk (Kd.C_below hCE hstep)
  have HBYTE := Aside0.mk hByte
  clear h0 h1 h31 hC3 hW3 hw3 hl97 hbA hstep hIA hp1 hI3 hgr hCE hByte
  go_wp2_with (go_at_call 54; go_loud (refine (HP1.out).mono ?_))
  rintro e w4 ⟨rfl, hb4⟩
  have hl98 := lit_C w4 [98] (1, 2) (by simp)
  have hw4 := below_step HBA.out hb4
  have hbB := hw4.alloc hw4.size (.cells ([98].map (Value.int .u8)).toArray 5 (1, 2))
  have hstep := ((Below.refl w4.heap.size w4).alloc (Nat.le_refl _) (.cells ([98].map (Value.int .u8)).toArray 5 (1, 2)))
  have hp2 := iprove_any p b [[97]] (some ⟨w4.heap.size, 0, none⟩) 1 [98] _ ((HIA.out.below hb4).below hstep) HPB.out HBYTE.out hl98 (by decide) (by decide) (by decide) (some ⟨g, 0, none⟩) dd E (by rw [E32]; exact Kd.C_below (Kd.C_below HCE.out hb4) hstep) (by rw [E32]; exact hdd) EB
  rw [hE2, decide_eq_false (by simp), E32] at hp2
  have HP2 : Aside0 (Calls Tryd.prog 54 #[.pointer (some ⟨p, 0, none⟩), .slice (some ⟨w4.heap.size, 0, none⟩) 1 1, .slice (some ⟨g, 0, none⟩) 32 dd] (w4.alloc (.cells #[.int .u8 98] 5 (1, 2))) (BoolPost false (w4.alloc (.cells #[.int .u8 98] 5 (1, 2))))) := ⟨hp2⟩
  have HBB := Aside0.mk hbB
  clear hl98 hw4 hbB hstep hp2 hb4
  go_wp2_with (go_at_call 54; go_loud (refine (HP2.out).mono ?_))
  rintro e w5 ⟨rfl, hb5⟩
  have HB5 := Aside0.mk (below_step HBB.out hb5)
  clear hb5
  go_wp2
  go_ret
  exact ⟨rfl, HB5.out⟩
end Go.Proofs.YtlddionmkblioaaDoor.E

/- mac.Code and the law's known, of chapter 3, in the print's form. -/
namespace Go.Proofs.YtlddionmkblioaaDoor.E
open Go.RowKit Go.Proofs.YtlddionmkblioaaDoorW.PrintWords
def wicketmanlaw03_known.f : Option Bool := some true
theorem wicketmanlaw03_known.calls (r : Bool) (w : World) (h : wicketmanlaw03_known.f = some r) (hG : RootsIn w) :
    Calls Tryd.prog 5 #[] w fun e w' => e = .returned (.bool r) ∧ Below w.heap.size w w' := by
  obtain rfl := Option.some.inj h
  exact known3 w hG
def mac_Code.f (l0 l1 : List Int) : Option (List Int) := if l0.length ≤ 1000000 ∧ l1.length ≤ 900000 ∧ (∀ x ∈ l0, 0 ≤ x ∧ x ≤ 255) ∧ ∀ x ∈ l1, 0 ≤ x ∧ x ≤ 255 then some (codeL l0 l1) else none
theorem mac_Code.calls (A0 : Option Addr) (c0 : Nat) (l0 : List Int) (A1 : Option Addr) (c1 : Nat) (l1 : List Int) (r : List Int) (w : World) (hr0 : Kd.C (Kd.int .u8) w A0 l0.length l0) (hc0 : l0.length ≤ c0) (hr1 : Kd.C (Kd.int .u8) w A1 l1.length l1) (hc1 : l1.length ≤ c1) (h : mac_Code.f l0 l1 = some r) (hG : RootsIn w) :
    Calls Tryd.prog 9 #[.slice A0 l0.length c0, .slice A1 l1.length c1] w fun e w' => ∃ v0_ : Value, e = .returned (v0_) ∧ Kd.R (Kd.int .u8) 5 w' w.heap.size (fun _ => True) v0_ r ∧ Below w.heap.size w w' := by
  unfold mac_Code.f at h
  split at h
  · rename_i h2
    obtain rfl := Option.some.inj h
    exact code_any A0 c0 l0 A1 c1 l1 w hr0 hc0 h2.2.2.1 h2.1 hr1 hc1 h2.2.2.2 h2.2.1 hG
  · exact absurd h (by simp)
end Go.Proofs.YtlddionmkblioaaDoor.E

