/- text.Runes, Name, Pass, Note, Escape, in the print's form. -/
import Derived.Test.YtlehjehnapjioaaDoorTx1
namespace Go.Proofs.YtlehjehnapjioaaDoor.E
open Go.RowKit Go.Lib Go.Proofs.YtlehjehnapjioaaDoorW.PrintWords Go.Proofs.YtlehjehnapjioaaDoorW.PrintLast Go.Proofs.YtlehjehnapjioaaDoorW.PrintMore Go.Proofs.YtlehjehnapjioaaDoor.Pr
set_option linter.unusedVariables false
set_option linter.unusedSimpArgs false
theorem ret_bool {a b : Bool} (h : a = b) : Ending.returned (.bool a) = .returned (.bool b) := by rw [h]
set_option maxHeartbeats 2000000 in
set_option maxRecDepth 100000 in
theorem may_name : MayIs 29 nameMay := by
  intro i n W hi hn
  obtain ⟨b, hb⟩ : ∃ b, b = nameMay i n := ⟨_, rfl⟩
  rw [← hb]
  have HB := Aside0.mk hb
  clear hb
  go_enter Tryd.func29, Tryd.ntmps29
  go_wp2
  all_goals go_ret
  all_goals (refine ⟨?_, ⟨0, rfl⟩⟩)
  all_goals (rw [HB.out]; refine ret_bool ?_; unfold nameMay; unfold letterB; rw [Bool.eq_iff_iff]; simp only [Bool.and_eq_true, Bool.or_eq_true, decide_eq_true_eq, beq_iff_eq, bne_iff_ne, ne_eq, true_iff, false_iff, Bool.false_eq_true]; omega)
set_option maxHeartbeats 2000000 in
set_option maxRecDepth 100000 in
theorem may_pass : MayIs 30 passMay := by
  intro i n W hi hn
  obtain ⟨b, hb⟩ : ∃ b, b = passMay i n := ⟨_, rfl⟩
  rw [← hb]
  have HB := Aside0.mk hb
  clear hb
  go_enter Tryd.func30, Tryd.ntmps30
  go_wp2
  all_goals go_ret
  all_goals (refine ⟨?_, ⟨0, rfl⟩⟩)
  all_goals (rw [HB.out]; refine ret_bool ?_; unfold passMay;  rw [Bool.eq_iff_iff]; simp only [Bool.and_eq_true, Bool.or_eq_true, decide_eq_true_eq, beq_iff_eq, bne_iff_ne, ne_eq, true_iff, false_iff, Bool.false_eq_true]; omega)
set_option maxHeartbeats 2000000 in
set_option maxRecDepth 100000 in
theorem may_note : MayIs 31 noteMay := by
  intro i n W hi hn
  obtain ⟨b, hb⟩ : ∃ b, b = noteMay i n := ⟨_, rfl⟩
  rw [← hb]
  have HB := Aside0.mk hb
  clear hb
  go_enter Tryd.func31, Tryd.ntmps31
  go_wp2
  all_goals go_ret
  all_goals (refine ⟨?_, ⟨0, rfl⟩⟩)
  all_goals (rw [HB.out]; refine ret_bool ?_; unfold noteMay;  rw [Bool.eq_iff_iff]; simp only [Bool.and_eq_true, Bool.or_eq_true, decide_eq_true_eq, beq_iff_eq, bne_iff_ne, ne_eq, true_iff, false_iff, Bool.false_eq_true]; omega)
def text_Name.f (s : ByteArray) : Option Bool := if s.size ≤ 140737488351232 then some (nameL (strL s)) else none
theorem name_def (s : ByteArray) : nameL (strL s) = (decide (1 ≤ s.size) && (decide (s.size ≤ 20) && (validD (strL s) && allR nameMay 0 (strL s)))) := by
  rw [name_all]
  unfold nameL
  rw [strL_len]
  rw [Bool.and_assoc]
set_option maxHeartbeats 2000000 in
set_option maxRecDepth 100000 in
theorem text_Name.calls (s : ByteArray) (r : Bool) (w : World) (h : text_Name.f s = some r) (hG : RootsIn w) :
    Calls Tryd.prog 14 #[.string s] w fun e w' => e = .returned (.bool r) ∧ Below w.heap.size w w' := by
  unfold text_Name.f at h
  split at h
  case isFalse => cases h
  case isTrue hs =>
  have h := Option.some.inj h
  rw [name_def] at h
  have hall := all_name nameMay may_name s w hs hG
  obtain ⟨V, hV⟩ : ∃ V, V = (validD (strL s) && allR nameMay 0 (strL s)) := ⟨_, rfl⟩
  rw [← hV] at h hall
  have HALL := Aside0.mk hall
  clear hall hV hG
  by_cases h0 : s.size = 0
  · have e0 : s.toList = [] := List.eq_nil_of_length_eq_zero (by rw [ByteArray.toList_eq, Array.length_toList]; exact h0)
    have e1 : (s.toList.isEmpty) = true := by rw [e0]; rfl
    rw [h0] at h
    have h : r = false := by rw [← h]; rfl
    subst h
    clear HALL h0
    go_enter Tryd.func14, Tryd.ntmps14
    go_wp2
    go_ret
    exact ⟨rfl, Below.refl _ _⟩
  have e0 : ¬ s.toList = [] := fun e => h0 (by have := congrArg List.length e; rw [ByteArray.toList_eq, Array.length_toList] at this; exact this)
  have e1 : (s.toList.isEmpty) = false := by cases hq : s.toList with | nil => exact absurd hq e0 | cons _ _ => rfl
  rw [decide_eq_true (show 1 ≤ s.size by omega), Bool.true_and] at h
  by_cases h1 : s.size ≤ 20
  · have g1 : (s.size : Int) ≤ 20 := by omega
    rw [decide_eq_true h1, Bool.true_and] at h
    subst h
    go_enter Tryd.func14, Tryd.ntmps14
    go_wp2_with (go_at_call 28; ((with_reducible refine (HALL.out).mono ?_); rintro e w1 ⟨rfl, hb1⟩); have HB1 := Aside0.mk hb1; clear hb1)
    go_ret
    exact ⟨rfl, HB1.out⟩
  · have g1 : ¬ (s.size : Int) ≤ 20 := by omega
    rw [decide_eq_false h1, Bool.false_and] at h
    subst h
    clear HALL
    go_enter Tryd.func14, Tryd.ntmps14
    go_wp2
    go_ret
    exact ⟨rfl, Below.refl _ _⟩
def text_Pass.f (s : ByteArray) : Option Bool := if s.size ≤ 140737488351232 then some (passL (strL s)) else none
theorem pass_def (s : ByteArray) : passL (strL s) = (decide (1 ≤ s.size) && (decide (s.size ≤ 60) && (validD (strL s) && allR passMay 0 (strL s)))) := by
  rw [pass_all]
  unfold passL
  rw [strL_len]
  rw [Bool.and_assoc]
set_option maxHeartbeats 2000000 in
set_option maxRecDepth 100000 in
theorem text_Pass.calls (s : ByteArray) (r : Bool) (w : World) (h : text_Pass.f s = some r) (hG : RootsIn w) :
    Calls Tryd.prog 15 #[.string s] w fun e w' => e = .returned (.bool r) ∧ Below w.heap.size w w' := by
  unfold text_Pass.f at h
  split at h
  case isFalse => cases h
  case isTrue hs =>
  have h := Option.some.inj h
  rw [pass_def] at h
  have hall := all_pass passMay may_pass s w hs hG
  obtain ⟨V, hV⟩ : ∃ V, V = (validD (strL s) && allR passMay 0 (strL s)) := ⟨_, rfl⟩
  rw [← hV] at h hall
  have HALL := Aside0.mk hall
  clear hall hV hG
  by_cases h0 : s.size = 0
  · have e0 : s.toList = [] := List.eq_nil_of_length_eq_zero (by rw [ByteArray.toList_eq, Array.length_toList]; exact h0)
    have e1 : (s.toList.isEmpty) = true := by rw [e0]; rfl
    rw [h0] at h
    have h : r = false := by rw [← h]; rfl
    subst h
    clear HALL h0
    go_enter Tryd.func15, Tryd.ntmps15
    go_wp2
    go_ret
    exact ⟨rfl, Below.refl _ _⟩
  have e0 : ¬ s.toList = [] := fun e => h0 (by have := congrArg List.length e; rw [ByteArray.toList_eq, Array.length_toList] at this; exact this)
  have e1 : (s.toList.isEmpty) = false := by cases hq : s.toList with | nil => exact absurd hq e0 | cons _ _ => rfl
  rw [decide_eq_true (show 1 ≤ s.size by omega), Bool.true_and] at h
  by_cases h1 : s.size ≤ 60
  · have g1 : (s.size : Int) ≤ 60 := by omega
    rw [decide_eq_true h1, Bool.true_and] at h
    subst h
    go_enter Tryd.func15, Tryd.ntmps15
    go_wp2_with (go_at_call 28; ((with_reducible refine (HALL.out).mono ?_); rintro e w1 ⟨rfl, hb1⟩); have HB1 := Aside0.mk hb1; clear hb1)
    go_ret
    exact ⟨rfl, HB1.out⟩
  · have g1 : ¬ (s.size : Int) ≤ 60 := by omega
    rw [decide_eq_false h1, Bool.false_and] at h
    subst h
    clear HALL
    go_enter Tryd.func15, Tryd.ntmps15
    go_wp2
    go_ret
    exact ⟨rfl, Below.refl _ _⟩
def text_Note.f (s : ByteArray) : Option Bool := if s.size ≤ 140737488351232 then some (noteL (strL s)) else none
theorem note_def (s : ByteArray) : noteL (strL s) = ((decide (s.size ≤ 200) && (validD (strL s) && allR noteMay 0 (strL s)))) := by
  rw [note_all]
  unfold noteL
  rw [strL_len]
set_option maxHeartbeats 2000000 in
set_option maxRecDepth 100000 in
theorem text_Note.calls (s : ByteArray) (r : Bool) (w : World) (h : text_Note.f s = some r) (hG : RootsIn w) :
    Calls Tryd.prog 16 #[.string s] w fun e w' => e = .returned (.bool r) ∧ Below w.heap.size w w' := by
  unfold text_Note.f at h
  split at h
  case isFalse => cases h
  case isTrue hs =>
  have h := Option.some.inj h
  rw [note_def] at h
  have hall := all_note noteMay may_note s w hs hG
  obtain ⟨V, hV⟩ : ∃ V, V = (validD (strL s) && allR noteMay 0 (strL s)) := ⟨_, rfl⟩
  rw [← hV] at h hall
  have HALL := Aside0.mk hall
  clear hall hV hG
  by_cases h1 : s.size ≤ 200
  · have g1 : (s.size : Int) ≤ 200 := by omega
    rw [decide_eq_true h1, Bool.true_and] at h
    subst h
    go_enter Tryd.func16, Tryd.ntmps16
    go_wp2_with (go_at_call 28; ((with_reducible refine (HALL.out).mono ?_); rintro e w1 ⟨rfl, hb1⟩); have HB1 := Aside0.mk hb1; clear hb1)
    go_ret
    exact ⟨rfl, HB1.out⟩
  · have g1 : ¬ (s.size : Int) ≤ 200 := by omega
    rw [decide_eq_false h1, Bool.false_and] at h
    subst h
    clear HALL
    go_enter Tryd.func16, Tryd.ntmps16
    go_wp2
    go_ret
    exact ⟨rfl, Below.refl _ _⟩
def text_Runes.f (s : ByteArray) : Option (Int × Bool) := if s.size ≤ 140737488351232 then some (((runesL (strL s)).getD 0 : Nat), (runesL (strL s)).isSome) else none
theorem text_Runes.calls (s : ByteArray) (r1 : Int) (r2 : Bool) (w : World) (h : text_Runes.f s = some (r1, r2)) (hG : RootsIn w) :
    Calls Tryd.prog 12 #[.string s] w fun e w' => e = .returned (.tuple #[.int .i64 r1, .bool r2]) ∧ Below w.heap.size w w' := by
  unfold text_Runes.f at h
  split at h
  case isFalse => cases h
  case isTrue hs =>
  have h := Option.some.inj h
  simp only [Prod.mk.injEq] at h
  obtain ⟨rfl, rfl⟩ := h
  exact runes_any s w hs hG
theorem strCells_of (l : Bs) : Lib.strCells ⟨l.toArray⟩ = Lib.byteCells l := by
  simp [Lib.strCells, Lib.byteCells]
theorem err_take (l : Bs) (hne : l ≠ []) (hr : run1 l = 65533) (hb : ¬ badL l) : l.take (wid l) = [239, 191, 189] ∧ wid l = 3 := by
  rcases shapeL l hne with ⟨h, -⟩ | ⟨-, w, h0, hr2⟩ | ⟨-, w, hn, -, h0, h1, hv, hr2⟩ | ⟨-, w, hn, -, h0, h1, h2, hv, hs, hr2⟩ | ⟨-, w, hn, -, h0, h1, h2, h3, hv, hs, hr2⟩
  · exact absurd h hb
  · omega
  · omega
  · refine ⟨?_, w⟩
    rw [w, takeC l hn]
    have a0 : l.getD 0 0 = 239 := by rw [← UInt8.toNat_inj]; show _ = 239; omega
    have a1 : l.getD 1 0 = 191 := by rw [← UInt8.toNat_inj]; show _ = 191; omega
    have a2 : l.getD 2 0 = 189 := by rw [← UInt8.toNat_inj]; show _ = 189; omega
    rw [a0, a1, a2]
  · omega
theorem err_bad (l t : Bs) (h : l = 239 :: 191 :: 189 :: t) : ¬ badL l := by
  subst h
  unfold badL
  rw [decodeL_N]
  have e0 : ((239 : UInt8) :: 191 :: 189 :: t).getD 0 0 = 239 := rfl
  have e1 : ((239 : UInt8) :: 191 :: 189 :: t).getD 1 0 = 191 := rfl
  have e2 : ((239 : UInt8) :: 191 :: 189 :: t).getD 2 0 = 189 := rfl
  rw [e0, e1, e2, dN3 (by decide) (by simp) (by decide) (by decide) (by decide) (by decide)]
  decide
theorem prefix_err (s : ByteArray) (p : Nat) (hp : p < s.size) (hr : run1 ((strL s).drop p) = 65533) : Lib.hasPrefix (s.extract p s.size).data.toList (⟨#[239, 191, 189]⟩ : ByteArray).data.toList = decide (¬ badL ((strL s).drop p)) := by
  have hx : (s.extract p s.size).data.toList = (strL s).drop p := by
    have := strL_len s
    unfold strL at this ⊢
    rw [ByteArray.data_extract, Array.toList_extract, List.extract_eq_take_drop]
    rw [List.take_of_length_le]
    rw [List.length_drop, this]; omega
  rw [hx]
  show List.isPrefixOf [239, 191, 189] ((strL s).drop p) = _
  by_cases hb : badL ((strL s).drop p)
  · rw [decide_eq_false (fun h => h hb)]
    rw [Bool.eq_false_iff]
    intro h
    rw [List.isPrefixOf_iff_prefix] at h
    obtain ⟨t, ht⟩ := h
    exact err_bad _ t ht.symm hb
  · rw [decide_eq_true hb]
    have ht := (err_take _ (drop_ne hp) hr hb).1
    rw [List.isPrefixOf_iff_prefix]
    exact ⟨((strL s).drop p).drop (wid ((strL s).drop p)), by
      have := List.take_append_drop (wid ((strL s).drop p)) ((strL s).drop p)
      rw [ht] at this
      exact this⟩
theorem cells_err : Lib.runeCells 65533 = Lib.byteCells [239, 191, 189] := by rfl
theorem bytes_enc (l : Bs) (hne : l ≠ []) (hb : ¬ badL l) : Lib.runeCells (run1 l : Int) = Lib.byteCells (l.take (wid l)) := by
  rw [← Lib.byteCells_encodeRune]
  congr 1
  exact encode_decode l hne hb
set_option maxHeartbeats 8000000 in
set_option maxRecDepth 1000000 in
theorem escape_any (s : ByteArray) (w : World) (hs : s.size ≤ 1000000000) :
    Calls Tryd.prog 13 #[.string s] w fun e w' => e = .returned (.string ⟨(escL (strL s)).toArray⟩) ∧ Below w.heap.size w w' := by
  obtain ⟨ES, hES⟩ : ∃ ES, ES = escL (strL s) := ⟨_, rfl⟩
  have hel := esc_le (strL s)
  rw [strL_len, ← hES] at hel
  rw [← hES]
  have H0 : Aside0 (([] : Bs) ++ escL ((strL s).drop 0) = ES) := ⟨by rw [hES]; rfl⟩
  clear hES
  go_enter Tryd.func13, Tryd.ntmps13
  go_wp2
  go_loopw [] (fun wr => ∃ (p : Nat) (acc : Bs), Lib.IsBuilderF 37 5 w.heap.size w.heap.size (Lib.byteCells acc) wr ∧ wr.heap[w.heap.size + 1]? = some (.stringIter s p) ∧ Below w.heap.size w wr ∧ Aside0 (acc ++ escL ((strL s).drop p) = ES)) (fun wr => s.size - wr.iterPos (w.heap.size + 1))
  case atStart =>
    refine ⟨0, [], (Lib.IsBuilderF.of (Lib.fresh_isBuilder 37 5 w)).alloc _, ?_, ((Below.refl _ w).alloc (Nat.le_refl _) _).alloc (by simp) _, H0⟩
    have := World.iter_heap (w.alloc (.cells #[.pointer none, .slice none 0 0] 37)) s 0
    simpa using this
  case round =>
    obtain ⟨p, acc, hI, hit, hbw, hA⟩ := hrel
    have hsz : w.heap.size + 1 < wr.heap.size := (Array.getElem?_eq_some_iff.1 hit).1
    have hal : acc.length ≤ 5 * s.size := by
      have := congrArg List.length hA.out
      rw [List.length_append] at this
      omega
    by_cases hp : p < s.size
    · have hnx : ∀ ty, (Instr.next (.pointer (some ⟨w.heap.size + 1, 0, none⟩)) true ty).run Tryd.prog wr = _ := fun ty => Lib.run_next_any_at wr (w.heap.size + 1) s p ty hit hp
      have hwd := wid_pos ((strL s).drop p)
      rw [← (dec_at s p).1] at hwd
      have hd1 := decode_le s p
      have hI2 := hI.iterAt hit (p + (Utf8.decode s p).2)
      have hit2 := Lib.iterAt_heap wr (w.heap.size + 1) s p (p + (Utf8.decode s p).2) hit
      have hbw2 := Lib.below_iterAt hbw (k := w.heap.size + 1) (by omega) s (p + (Utf8.decode s p).2)
      have hsz2 : w.heap.size + 1 < (wr.iterAt (w.heap.size + 1) s (p + (Utf8.decode s p).2)).heap.size := by rw [Lib.iterAt_size]; omega
      have hstep : ∀ q : Bs, q = piece ((strL s).drop p) → acc ++ q ++ escL ((strL s).drop (p + (Utf8.decode s p).2)) = ES := by
        intro q hq
        rw [← hA.out, escL_step _ (drop_ne hp), hq, (dec_at s p).1, ← List.drop_drop, List.append_assoc]
      have hpc := piece_cases ((strL s).drop p) (drop_ne hp)
      have hms : ∀ W : World, W.heap[w.heap.size + 1]? = some (.stringIter s (p + (Utf8.decode s p).2)) → s.size - W.iterPos (w.heap.size + 1) < s.size - wr.iterPos (w.heap.size + 1) := by
        intro W h
        simp only [World.iterPos, h, hit]
        omega
      have hdr := (dec_at s p).2
      obtain ⟨r, hr⟩ : ∃ r, r = (Utf8.decode s p).1 := ⟨_, rfl⟩
      rw [← hr] at hdr hd1
      have hnx2 : ∀ ty, (Instr.next (.pointer (some ⟨w.heap.size + 1, 0, none⟩)) true ty).run Tryd.prog wr = .ok (.tuple #[.bool true, .int .i64 (p : Int), .int .i32 (r : Int)]) (wr.iterAt (w.heap.size + 1) s (p + (Utf8.decode s p).2)) := by rw [hr]; exact hnx
      obtain ⟨p2, hp2⟩ : ∃ p2, p2 = p + (Utf8.decode s p).2 := ⟨_, rfl⟩
      rw [← hp2] at hI2 hit2 hbw2 hsz2 hstep hms hnx2
      have hsz3 : w.heap.size ≤ (wr.iterAt (w.heap.size + 1) s p2).heap.size := by omega
      have HSTEP := Aside0.mk hstep
      have HMS := Aside0.mk hms
      have HPC := Aside0.mk hpc
      have HDR := Aside0.mk hdr
      have HIT2 := Aside0.mk hit2
      have HB2 := Aside0.mk hbw2
      have HP2 := Aside0.mk hp2
      have HIT := Aside0.mk hit
      clear hstep hms hpc hdr hnx hr hit2 hbw2 hA hI hbw hit hp2
      by_cases c38 : r = 38
      · subst c38
        have hl5 : (Lib.byteCells acc).length + (⟨#[38, 97, 109, 112, 59]⟩ : ByteArray).size ≤ 140737488355328 := by rw [Lib.byteCells_length]; show acc.length + 5 ≤ _; omega
        go_wp2_with (go_at_call 23; ((with_reducible refine (writes_k w.heap.size w.heap.size _ ⟨#[38, 97, 109, 112, 59]⟩ _ hI2 hl5 hsz3).mono ?_)); rintro e W1 ⟨rfl, h1, b1, k1⟩; have hkit := k1.iter HIT2.out (by omega); have HK := Aside0.mk hkit; have HB3 := Aside0.mk (HB2.out.trans b1); have HI3 : Aside0 (Lib.IsBuilderF 37 5 w.heap.size w.heap.size (Lib.byteCells (acc ++ [38, 97, 109, 112, 59])) W1) := ⟨by rw [Lib.byteCells_append]; exact Or.inr (by rw [show Lib.strCells ⟨#[38, 97, 109, 112, 59]⟩ = Lib.byteCells [38, 97, 109, 112, 59] from strCells_of [38, 97, 109, 112, 59]] at h1; exact h1)⟩; have HST := Aside0.mk (HSTEP.out [38, 97, 109, 112, 59] (by unfold piece; rw [← HDR.out]; rfl)); clear h1 b1 k1 hkit hI2)
        go_roundw
        case rel => exact ⟨p2, acc ++ [38, 97, 109, 112, 59], HI3.out, HK.out, HB3.out, HST⟩
        case measure => exact HMS.out _ HK.out
      by_cases c60 : r = 60
      · subst c60
        have hl5 : (Lib.byteCells acc).length + (⟨#[38, 108, 116, 59]⟩ : ByteArray).size ≤ 140737488355328 := by rw [Lib.byteCells_length]; show acc.length + 4 ≤ _; omega
        go_wp2_with (go_at_call 23; ((with_reducible refine (writes_k w.heap.size w.heap.size _ ⟨#[38, 108, 116, 59]⟩ _ hI2 hl5 hsz3).mono ?_)); rintro e W1 ⟨rfl, h1, b1, k1⟩; have hkit := k1.iter HIT2.out (by omega); have HK := Aside0.mk hkit; have HB3 := Aside0.mk (HB2.out.trans b1); have HI3 : Aside0 (Lib.IsBuilderF 37 5 w.heap.size w.heap.size (Lib.byteCells (acc ++ [38, 108, 116, 59])) W1) := ⟨by rw [Lib.byteCells_append]; exact Or.inr (by rw [show Lib.strCells ⟨#[38, 108, 116, 59]⟩ = Lib.byteCells [38, 108, 116, 59] from strCells_of [38, 108, 116, 59]] at h1; exact h1)⟩; have HST := Aside0.mk (HSTEP.out [38, 108, 116, 59] (by unfold piece; rw [← HDR.out]; rfl)); clear h1 b1 k1 hkit hI2)
        go_roundw
        case rel => exact ⟨p2, acc ++ [38, 108, 116, 59], HI3.out, HK.out, HB3.out, HST⟩
        case measure => exact HMS.out _ HK.out
      by_cases c62 : r = 62
      · subst c62
        have hl5 : (Lib.byteCells acc).length + (⟨#[38, 103, 116, 59]⟩ : ByteArray).size ≤ 140737488355328 := by rw [Lib.byteCells_length]; show acc.length + 4 ≤ _; omega
        go_wp2_with (go_at_call 23; ((with_reducible refine (writes_k w.heap.size w.heap.size _ ⟨#[38, 103, 116, 59]⟩ _ hI2 hl5 hsz3).mono ?_)); rintro e W1 ⟨rfl, h1, b1, k1⟩; have hkit := k1.iter HIT2.out (by omega); have HK := Aside0.mk hkit; have HB3 := Aside0.mk (HB2.out.trans b1); have HI3 : Aside0 (Lib.IsBuilderF 37 5 w.heap.size w.heap.size (Lib.byteCells (acc ++ [38, 103, 116, 59])) W1) := ⟨by rw [Lib.byteCells_append]; exact Or.inr (by rw [show Lib.strCells ⟨#[38, 103, 116, 59]⟩ = Lib.byteCells [38, 103, 116, 59] from strCells_of [38, 103, 116, 59]] at h1; exact h1)⟩; have HST := Aside0.mk (HSTEP.out [38, 103, 116, 59] (by unfold piece; rw [← HDR.out]; rfl)); clear h1 b1 k1 hkit hI2)
        go_roundw
        case rel => exact ⟨p2, acc ++ [38, 103, 116, 59], HI3.out, HK.out, HB3.out, HST⟩
        case measure => exact HMS.out _ HK.out
      by_cases c34 : r = 34
      · subst c34
        have hl5 : (Lib.byteCells acc).length + (⟨#[38, 35, 51, 52, 59]⟩ : ByteArray).size ≤ 140737488355328 := by rw [Lib.byteCells_length]; show acc.length + 5 ≤ _; omega
        go_wp2_with (go_at_call 23; ((with_reducible refine (writes_k w.heap.size w.heap.size _ ⟨#[38, 35, 51, 52, 59]⟩ _ hI2 hl5 hsz3).mono ?_)); rintro e W1 ⟨rfl, h1, b1, k1⟩; have hkit := k1.iter HIT2.out (by omega); have HK := Aside0.mk hkit; have HB3 := Aside0.mk (HB2.out.trans b1); have HI3 : Aside0 (Lib.IsBuilderF 37 5 w.heap.size w.heap.size (Lib.byteCells (acc ++ [38, 35, 51, 52, 59])) W1) := ⟨by rw [Lib.byteCells_append]; exact Or.inr (by rw [show Lib.strCells ⟨#[38, 35, 51, 52, 59]⟩ = Lib.byteCells [38, 35, 51, 52, 59] from strCells_of [38, 35, 51, 52, 59]] at h1; exact h1)⟩; have HST := Aside0.mk (HSTEP.out [38, 35, 51, 52, 59] (by unfold piece; rw [← HDR.out]; rfl)); clear h1 b1 k1 hkit hI2)
        go_roundw
        case rel => exact ⟨p2, acc ++ [38, 35, 51, 52, 59], HI3.out, HK.out, HB3.out, HST⟩
        case measure => exact HMS.out _ HK.out
      by_cases c39 : r = 39
      · subst c39
        have hl5 : (Lib.byteCells acc).length + (⟨#[38, 35, 51, 57, 59]⟩ : ByteArray).size ≤ 140737488355328 := by rw [Lib.byteCells_length]; show acc.length + 5 ≤ _; omega
        go_wp2_with (go_at_call 23; ((with_reducible refine (writes_k w.heap.size w.heap.size _ ⟨#[38, 35, 51, 57, 59]⟩ _ hI2 hl5 hsz3).mono ?_)); rintro e W1 ⟨rfl, h1, b1, k1⟩; have hkit := k1.iter HIT2.out (by omega); have HK := Aside0.mk hkit; have HB3 := Aside0.mk (HB2.out.trans b1); have HI3 : Aside0 (Lib.IsBuilderF 37 5 w.heap.size w.heap.size (Lib.byteCells (acc ++ [38, 35, 51, 57, 59])) W1) := ⟨by rw [Lib.byteCells_append]; exact Or.inr (by rw [show Lib.strCells ⟨#[38, 35, 51, 57, 59]⟩ = Lib.byteCells [38, 35, 51, 57, 59] from strCells_of [38, 35, 51, 57, 59]] at h1; exact h1)⟩; have HST := Aside0.mk (HSTEP.out [38, 35, 51, 57, 59] (by unfold piece; rw [← HDR.out]; rfl)); clear h1 b1 k1 hkit hI2)
        go_roundw
        case rel => exact ⟨p2, acc ++ [38, 35, 51, 57, 59], HI3.out, HK.out, HB3.out, HST⟩
        case measure => exact HMS.out _ HK.out
      by_cases c : r = 65533
      · subst c
        by_cases hbad : badL ((strL s).drop p)
        · have hpx := prefix_err s p hp HDR.out.symm
          rw [decide_eq_false (fun h => h hbad)] at hpx
          have hpx2 := Tryd.strings_HasPrefix (s.extract p s.size) ⟨#[239, 191, 189]⟩ (wr.iterAt (w.heap.size + 1) s p2)
          rw [hpx] at hpx2
          have HPX := Aside0.mk hpx2
          clear hpx hpx2
          have hps : (p : Int) ≤ (s.size : Int) := by omega
          go_wp2_with (go_at_call 24; ((with_reducible refine (HPX.out).mono ?_); rintro e W0 ⟨rfl, rfl⟩))
          go_wp2_with (go_at_call 26; ((with_reducible refine (write_k w.heap.size w.heap.size _ 63 _ hI2 (by rw [Lib.byteCells_length]; omega) hsz3).mono ?_)); rintro e W1 ⟨rfl, h1, b1, k1⟩; have hkit := k1.iter HIT2.out (by omega); have HK := Aside0.mk hkit; have HB3 := Aside0.mk (HB2.out.trans b1); have HI3 : Aside0 (Lib.IsBuilderF 37 5 w.heap.size w.heap.size (Lib.byteCells (acc ++ [63])) W1) := ⟨by rw [Lib.byteCells_append]; exact Or.inr (by rw [show [Value.int .u8 63] = Lib.byteCells [63] from rfl] at h1; exact h1)⟩; have HST := Aside0.mk (HSTEP.out [63] (by unfold piece; rw [← HDR.out, if_neg (by decide), if_neg (by decide), if_neg (by decide), if_neg (by decide), if_neg (by decide), if_pos hbad])); clear h1 b1 k1 hkit hI2)
          go_roundw
          case rel => exact ⟨p2, acc ++ [63], HI3.out, HK.out, HB3.out, HST⟩
          case measure => exact HMS.out _ HK.out
        · have hpx := prefix_err s p hp HDR.out.symm
          rw [decide_eq_true hbad] at hpx
          have hpx2 := Tryd.strings_HasPrefix (s.extract p s.size) ⟨#[239, 191, 189]⟩ (wr.iterAt (w.heap.size + 1) s p2)
          rw [hpx] at hpx2
          have HPX := Aside0.mk hpx2
          clear hpx hpx2
          have hps : (p : Int) ≤ (s.size : Int) := by omega
          go_wp2_with (go_at_call 24; ((with_reducible refine (HPX.out).mono ?_); rintro e W0 ⟨rfl, rfl⟩))
          go_wp2_with (go_at_call 25; ((with_reducible refine (writer_k w.heap.size w.heap.size _ 65533 (by omega) (by omega) _ hI2 (by rw [Lib.byteCells_length]; omega) hsz3).mono ?_)); rintro e W1 ⟨rfl, h1, b1, k1⟩; have hkit := k1.iter HIT2.out (by omega); have HK := Aside0.mk hkit; have HB3 := Aside0.mk (HB2.out.trans b1); have HI3 : Aside0 (Lib.IsBuilderF 37 5 w.heap.size w.heap.size (Lib.byteCells (acc ++ [239, 191, 189])) W1) := ⟨by rw [Lib.byteCells_append]; exact Or.inr (by rw [cells_err] at h1; exact h1)⟩; have HST := Aside0.mk (HSTEP.out [239, 191, 189] (by unfold piece; rw [← HDR.out, if_neg (by decide), if_neg (by decide), if_neg (by decide), if_neg (by decide), if_neg (by decide), if_neg hbad, (err_take _ (drop_ne hp) HDR.out.symm hbad).1])); clear h1 b1 k1 hkit hI2)
          go_roundw
          case rel => exact ⟨p2, acc ++ [239, 191, 189], HI3.out, HK.out, HB3.out, HST⟩
          case measure => exact HMS.out _ HK.out
      have hnb : ¬ badL ((strL s).drop p) := fun h => c (by rw [HDR.out]; exact h.1)
      have hcells : Lib.runeCells (r : Int) = Lib.byteCells (((strL s).drop p).take (wid ((strL s).drop p))) := by rw [HDR.out]; exact bytes_enc _ (drop_ne hp) hnb
      obtain ⟨tk, htk⟩ : ∃ tk, tk = ((strL s).drop p).take (wid ((strL s).drop p)) := ⟨_, rfl⟩
      rw [← htk] at hcells
      have HCELLS := Aside0.mk hcells
      have HTK := Aside0.mk htk
      clear hcells htk
      go_wp2_with (go_at_call 25; ((with_reducible refine (writer_k w.heap.size w.heap.size _ (r : Int) (by omega) (by omega) _ hI2 (by rw [Lib.byteCells_length]; omega) hsz3).mono ?_)); rintro e W1 ⟨rfl, h1, b1, k1⟩; have hkit := k1.iter HIT2.out (by omega); have HK := Aside0.mk hkit; have HB3 := Aside0.mk (HB2.out.trans b1); have HI3 : Aside0 (Lib.IsBuilderF 37 5 w.heap.size w.heap.size (Lib.byteCells (acc ++ tk)) W1) := ⟨by rw [Lib.byteCells_append]; exact Or.inr (by rw [HCELLS.out] at h1; exact h1)⟩; have HST := Aside0.mk (HSTEP.out tk (by unfold piece; rw [← HDR.out, if_neg c38, if_neg c60, if_neg c62, if_neg c34, if_neg c39, if_neg hnb]; exact HTK.out)); clear h1 b1 k1 hkit hI2)
      go_roundw
      case rel => exact ⟨p2, acc ++ tk, HI3.out, HK.out, HB3.out, HST⟩
      case measure => exact HMS.out _ HK.out
    · have hnx : ∀ ty, (Instr.next (.pointer (some ⟨w.heap.size + 1, 0, none⟩)) true ty).run Tryd.prog wr = _ := fun ty => Lib.run_next_end_at wr (w.heap.size + 1) s p ty hit hp
      have hacc : acc = ES := by
        have := hA.out
        rw [drop_end hp, escL_nil, List.append_nil] at this
        exact this
      subst hacc
      clear hA
      go_wp2_with (go_at_call 27; ((with_reducible refine (Tryd.Builder_String_any_k w.heap.size w.heap.size acc _ hI (by omega)).mono ?_)))
      rintro e W1 ⟨rfl, -, b1, -⟩
      go_wp2
      go_ret
      exact ⟨rfl, hbw.trans b1⟩
def text_Escape.f (s : ByteArray) : Option ByteArray := if s.size ≤ 1000000000 then some ⟨(escL (strL s)).toArray⟩ else none
theorem text_Escape.calls (s : ByteArray) (r : ByteArray) (w : World) (h : text_Escape.f s = some r) :
    Calls Tryd.prog 13 #[.string s] w fun e w' => e = .returned (.string r) ∧ Below w.heap.size w w' := by
  unfold text_Escape.f at h
  split at h
  case isFalse => cases h
  case isTrue hs =>
  have h := Option.some.inj h
  subst h
  exact escape_any s w hs
end Go.Proofs.YtlehjehnapjioaaDoor.E
