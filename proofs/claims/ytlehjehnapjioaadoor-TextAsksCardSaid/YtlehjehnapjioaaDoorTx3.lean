/- The document's texts (One, Runes, Name, Pass, Note, Escape) and the law's choices, plain. -/
import Derived.Test.YtlehjehnapjioaaDoorTx2
import Derived.Test.YtlehjehnapjioaaDoorF10
import Derived.Test.YtlehjehnapjioaaDoorF9
import Derived.Test.YtlehjehnapjioaaDoorF17
import Derived.Test.YtlehjehnapjioaaDoorF18
import Derived.Test.YtlehjehnapjioaaDoorF19
import Derived.Test.YtlehjehnapjioaaDoorF20
import Derived.Test.YtlehjehnapjioaaDoorF21
namespace Go.Proofs.YtlehjehnapjioaaDoor.E
open Go.RowKit Go.Lib Go.Proofs.YtlehjehnapjioaaDoorW.PrintWords Go.Proofs.YtlehjehnapjioaaDoorW.PrintLast Go.Proofs.YtlehjehnapjioaaDoorW.PrintMore Go.Proofs.YtlehjehnapjioaaDoor.Pr
set_option linter.unusedVariables false
set_option linter.unusedSimpArgs false
theorem strL_toList (s : ByteArray) : s.toList = strL s := ByteArray.toList_eq s
theorem strL_inj {s t : ByteArray} (h : strL s = strL t) : s = t := ByteArray.ext (Array.toList_inj.1 h)
theorem strL_app (s t : ByteArray) : strL (s ++ t) = strL s ++ strL t := by
  unfold strL
  rw [ByteArray.data_append, Array.toList_append]
theorem strL_mk (l : Bs) : strL ⟨l.toArray⟩ = l := by unfold strL; rw [List.toList_toArray]
theorem strL_ext (s : ByteArray) (i j : Nat) : strL (s.extract i j) = ((strL s).drop i).take (j - i) := by
  unfold strL
  rw [ByteArray.data_extract, Array.toList_extract, List.extract_eq_take_drop]
theorem strL_drop (s : ByteArray) (i : Nat) : strL (s.extract i s.size) = (strL s).drop i := by
  rw [strL_ext, List.take_of_length_le]
  rw [List.length_drop, strL_len]
  omega
theorem strL_take (s : ByteArray) (j : Nat) : strL (s.extract 0 j) = (strL s).take j := by rw [strL_ext, List.drop_zero, Nat.sub_zero]
theorem size_L (s : ByteArray) : s.size = (strL s).length := (strL_len s).symm
theorem bt_L (s : ByteArray) (i : Nat) : bt s (i : Int) = (((strL s).getD i 0).toNat : Int) := by
  unfold bt
  rw [Int.toNat_natCast]
  split
  · rename_i h
    have h2 : i < (strL s).length := by rw [strL_len]; exact h
    rw [List.getD_eq_getElem?_getD, List.getElem?_eq_getElem h2]
    rfl
  · rename_i h
    rw [List.getD_eq_getElem?_getD, List.getElem?_eq_none (by rw [strL_len]; omega)]
    rfl
theorem bt_0 (s : ByteArray) : bt s 0 = (((strL s).getD 0 0).toNat : Int) := bt_L s 0
theorem w64_id {x : Int} (h0 : 0 ≤ x) (h1 : x < 9223372036854775808) : wrap64 x = x := by unfold wrap64; omega
theorem tm_id {x y : Int} (h0 : 0 ≤ x) : Int.tmod x y = x % y := Int.tmod_eq_emod_of_nonneg h0
theorem known_f : wicketmanlaw06_known.f = some true := by decide +kernel
/-- The choices. -/
def signs : List ByteArray := [(⟨#[97]⟩ : ByteArray), (⟨#[98]⟩ : ByteArray), (⟨#[122]⟩ : ByteArray), (⟨#[95]⟩ : ByteArray), (⟨#[48]⟩ : ByteArray), (⟨#[55]⟩ : ByteArray), (⟨#[32]⟩ : ByteArray), (⟨#[10]⟩ : ByteArray), (⟨#[195, 169]⟩ : ByteArray), (⟨#[226, 130, 172]⟩ : ByteArray), (⟨#[240, 159, 152, 128]⟩ : ByteArray), (⟨#[38]⟩ : ByteArray), (⟨#[60]⟩ : ByteArray), (⟨#[62]⟩ : ByteArray), (⟨#[34]⟩ : ByteArray), (⟨#[39]⟩ : ByteArray), (⟨#[255]⟩ : ByteArray), (⟨#[195]⟩ : ByteArray), (⟨#[127]⟩ : ByteArray), (⟨#[237, 160, 128]⟩ : ByteArray), (⟨#[192, 128]⟩ : ByteArray), (⟨#[239, 191, 189]⟩ : ByteArray), (⟨#[65]⟩ : ByteArray), (⟨#[61]⟩ : ByteArray)]
theorem signs_le : ∀ j : Nat, (rdOf ByteArray.empty signs (j : Int)).size ≤ 4 := by
  intro j
  by_cases h : j < 24
  · revert j
    decide
  · unfold rdOf
    rw [Int.toNat_natCast, List.getD_eq_getElem?_getD, List.getElem?_eq_none (by show 24 ≤ j; omega)]
    exact Nat.zero_le _
theorem text_l0 (l0 : List Int) (hb : ∀ x ∈ l0, 0 ≤ x ∧ x ≤ 255) : ∀ (d i k : Nat) (x4 : ByteArray), i + d = min l0.length 60 → x4.size ≤ 4 * i → d < k → ∃ t, wicketmanlaw06_Text.l0 k l0 signs x4 (i : Int) = some t ∧ t.size ≤ 240 := by
  intro d
  induction d with
  | zero =>
    intro i k x4 hi h4 hk
    obtain ⟨k, rfl⟩ : ∃ m, k = m + 1 := ⟨k - 1, by omega⟩
    refine ⟨x4, ?_, by omega⟩
    simp only [wicketmanlaw06_Text.l0]
    by_cases h : (i : Int) < (l0.length : Int)
    · rw [if_pos h, if_neg (by omega)]
    · rw [if_neg h]
  | succ d ih =>
    intro i k x4 hi h4 hk
    obtain ⟨k, rfl⟩ : ∃ m, k = m + 1 := ⟨k - 1, by omega⟩
    have hil : i < l0.length := by omega
    have hx := hb (rd l0 (i : Int)) (by simp [rd, List.getD_eq_getElem?_getD, hil])
    obtain ⟨x, hxe⟩ : ∃ x, x = rd l0 (i : Int) := ⟨_, rfl⟩
    have h24 : (signs.length : Int) = 24 := rfl
    obtain ⟨j, hj⟩ : ∃ j : Nat, (j : Int) = x % 24 := ⟨(x % 24).toNat, by omega⟩
    have e1 : Int.tmod (wrap64 x) (signs.length : Int) = (j : Int) := by
      rw [h24, w64_id (by omega) (by omega), tm_id (by omega), hj]
    have hsz := signs_le j
    obtain ⟨y, hy⟩ : ∃ y, y = rdOf ByteArray.empty signs (j : Int) := ⟨_, rfl⟩
    rw [← hy] at hsz
    have hap : (x4 ++ y).size = x4.size + y.size := ByteArray.size_append
    obtain ⟨t, ht, hts⟩ := ih (i + 1) k (x4 ++ y) (by omega) (by omega) (by omega)
    refine ⟨t, ?_, hts⟩
    simp only [wicketmanlaw06_Text.l0]
    rw [← hxe, e1, h24, ← hy, if_pos (by omega), if_pos (by omega), if_pos (by omega), if_neg (by omega), if_pos (by omega), if_pos (by omega), if_pos (by omega), w64_id (by omega) (by omega)]
    exact ht
theorem text_f (l0 : List Int) (hb : ∀ x ∈ l0, 0 ≤ x ∧ x ≤ 255) (k : Nat) (hk : 61 ≤ k) : ∃ t, wicketmanlaw06_Text.f k l0 = some t ∧ t.size ≤ 240 :=
  text_l0 l0 hb (min l0.length 60) 0 k ⟨#[]⟩ (by omega) (by decide) (by omega)
theorem runes_f (s : ByteArray) (h : s.size ≤ 1000000) : text_Runes.f s = some ((((runesL (strL s)).getD 0 : Nat) : Int), (runesL (strL s)).isSome) := if_pos (by omega)
theorem name_f (s : ByteArray) (h : s.size ≤ 1000000) : text_Name.f s = some (nameL (strL s)) := if_pos (by omega)
theorem pass_f (s : ByteArray) (h : s.size ≤ 1000000) : text_Pass.f s = some (passL (strL s)) := if_pos (by omega)
theorem note_f (s : ByteArray) (h : s.size ≤ 1000000) : text_Note.f s = some (noteL (strL s)) := if_pos (by omega)
theorem escape_f (s : ByteArray) (h : s.size ≤ 1000000) : text_Escape.f s = some ⟨(escL (strL s)).toArray⟩ := if_pos (by omega)
theorem u8r (x : Int) : x = ((x.toNat : Nat) : Int) ∨ x < 0 := by omega
end Go.Proofs.YtlehjehnapjioaaDoor.E
