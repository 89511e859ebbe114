/- HexaRises: of two rows as long the one that is first, byte by byte, has the text that is first, for every input. -/
import Derived.Test.YtmepclalglmleaaF6
import Derived.Test.YtmepclalglmleaaM
namespace Go.Proofs.Ytmepclalglmleaa.Pure
open Go.RowKit Go.Proofs.Ytmepclalglmleaa.Pr Go.Proofs.YtmepclalglmleaaW.PrintWords Go.Proofs.YtmepclalglmleaaW.PrintLast Go.Proofs.Ytmepclalglmleaa.E
set_option linter.unusedVariables false
set_option linter.unusedSimpArgs false
theorem lt16 : ∀ d e : Fin 16, (decide (UInt8.ofNat (dg (d.val : Int)).toNat < UInt8.ofNat (dg (e.val : Int)).toNat) = decide (d.val < e.val)) ∧ ((UInt8.ofNat (dg (d.val : Int)).toNat == UInt8.ofNat (dg (e.val : Int)).toNat) = decide (d.val = e.val)) := by decide +kernel
theorem lt16' {d e : Int} (h0 : 0 ≤ d) (h1 : d < 16) (k0 : 0 ≤ e) (k1 : e < 16) : (decide (UInt8.ofNat (dg d).toNat < UInt8.ofNat (dg e).toNat) = decide (d < e)) ∧ ((UInt8.ofNat (dg d).toNat == UInt8.ofNat (dg e).toNat) = decide (d = e)) := by
  have h := lt16 ⟨d.toNat, by omega⟩ ⟨e.toNat, by omega⟩
  simp only [Int.toNat_of_nonneg h0, Int.toNat_of_nonneg k0] at h
  rw [h.1, h.2]
  exact ⟨decide_eq_decide.2 (by omega), decide_eq_decide.2 (by omega)⟩
theorem lt256 {d e : Int} (h0 : 0 ≤ d) (h1 : d ≤ 255) (k0 : 0 ≤ e) (k1 : e ≤ 255) : (decide (UInt8.ofNat d.toNat < UInt8.ofNat e.toNat) = decide (d < e)) ∧ ((UInt8.ofNat d.toNat == UInt8.ofNat e.toNat) = decide (d = e)) := by
  have e1 : (UInt8.ofNat d.toNat).toNat = d.toNat := by simp; omega
  have e2 : (UInt8.ofNat e.toNat).toNat = e.toNat := by simp; omega
  refine ⟨decide_eq_decide.2 ?_, ?_⟩
  · rw [UInt8.lt_iff_toNat_lt, e1, e2]; omega
  · rw [Bool.eq_iff_iff, beq_iff_eq, decide_eq_true_iff]
    constructor
    · intro h
      have := congrArg UInt8.toNat h
      rw [e1, e2] at this; omega
    · intro h; rw [h]
theorem less_hex : ∀ (a b : List Int), BL a → BL b → a.length = b.length → Op.bytesLess (toB (hexL a)) (toB (hexL b)) = Op.bytesLess (toB a) (toB b)
  | [], [], _, _, _ => rfl
  | [], _ :: _, _, _, h => by simp at h
  | _ :: _, [], _, _, h => by simp at h
  | x :: a, y :: b, ha, hb, h => by
    have hx := ha x (List.mem_cons_self ..)
    have hy := hb y (List.mem_cons_self ..)
    have ih := less_hex a b (fun z hz => ha z (List.mem_cons_of_mem _ hz)) (fun z hz => hb z (List.mem_cons_of_mem _ hz)) (by simpa using h)
    obtain ⟨l1, l2⟩ := lt16' (d := x / 16) (e := y / 16) (by omega) (by omega) (by omega) (by omega)
    obtain ⟨l3, l4⟩ := lt16' (d := x % 16) (e := y % 16) (by omega) (by omega) (by omega) (by omega)
    obtain ⟨l5, l6⟩ := lt256 hx.1 hx.2 hy.1 hy.2
    show Op.bytesLess (UInt8.ofNat (dg (x / 16)).toNat :: UInt8.ofNat (dg (x % 16)).toNat :: toB (hexL a)) (UInt8.ofNat (dg (y / 16)).toNat :: UInt8.ofNat (dg (y % 16)).toNat :: toB (hexL b)) = Op.bytesLess (UInt8.ofNat x.toNat :: toB a) (UInt8.ofNat y.toNat :: toB b)
    simp only [Op.bytesLess]
    rw [l1, l2, l3, l4, l5, l6, ih]
    generalize Op.bytesLess (toB a) (toB b) = r
    cases r
    · simp only [Bool.and_false, Bool.or_false]
      rw [Bool.eq_iff_iff]; simp; omega
    · simp only [Bool.and_true]
      rw [Bool.eq_iff_iff]; simp; omega
theorem T_inj {a b : List Int} (ha : BL a) (hb : BL b) (h : T a = T b) : a = b := by
  have := congrArg bytesOf h
  rw [bytesOf_T ha, bytesOf_T hb] at this
  rw [← pairs_hexL ha, ← pairs_hexL hb, this]
theorem str_inj {a b : List Int} (ha : BL a) (hb : BL b) (h : strOfNums a = strOfNums b) : a = b := by
  rw [strOfNums_eq, strOfNums_eq] at h
  have := congrArg bytesOf h
  rwa [bytesOf_toB ha, bytesOf_toB hb] at this
theorem toList_inj {a b : ByteArray} (h : a.toList = b.toList) : a = b := by
  rw [ByteArray.toList_eq, ByteArray.toList_eq] at h
  exact ByteArray.ext (Array.toList_inj.1 h)
theorem beq_list (a b : ByteArray) : (a.toList == b.toList) = decide (a = b) := by
  rw [Bool.eq_iff_iff, beq_iff_eq, decide_eq_true_iff]
  exact ⟨toList_inj, fun h => by rw [h]⟩
theorem rises (a b : List Int) (ha : BL a) (hb : BL b) (h : a.length = b.length) : ((Op.bytesLess (T a).toList (T b).toList) == (Op.bytesLess (strOfNums a).toList (strOfNums b).toList)) = true ∧ (((T a).toList == (T b).toList) == ((strOfNums a).toList == (strOfNums b).toList)) = true := by
  refine ⟨?_, ?_⟩
  · rw [strOfNums_eq, strOfNums_eq, ByteArray.toList_eq, ByteArray.toList_eq, ByteArray.toList_eq, ByteArray.toList_eq]
    rw [beq_iff_eq]; exact less_hex a b ha hb h
  · rw [beq_list, beq_list, beq_iff_eq]
    exact decide_eq_decide.2 ⟨fun k => by rw [T_inj ha hb k], fun k => by rw [str_inj ha hb k]⟩
theorem HexaRises : wicketmanlaw05_HexaRises.Pure := by
  intro a b hm hl hw hm2 hl2 hw2
  have hA := BL.of_wf hw
  have hB := BL.of_wf hw2
  unfold wicketmanlaw05_HexaRises.f
  obtain ⟨n, hn, h1, h2, h3⟩ : ∃ n : Nat, mn (mn (a.length : Int) (b.length : Int)) 100 = (n : Int) ∧ n ≤ a.length ∧ n ≤ b.length ∧ n ≤ 100 := by
    refine ⟨min (min a.length b.length) 100, ?_, by omega, by omega, by omega⟩
    unfold mn
    (repeat' split) <;> omega
  rw [hn, Int.toNat_natCast, if_pos (by omega), if_pos (by omega), if_pos (by omega), known_true, Option.bind_some, if_pos rfl]
  have lA : (a.take n).length = n := by rw [List.length_take]; omega
  have lB : (b.take n).length = n := by rw [List.length_take]; omega
  have hA' := hA.take n
  have hB' := hB.take n
  generalize a.take n = x at *
  generalize b.take n = y at *
  rw [text_f hA' (by omega), text_f hB' (by omega)]
  obtain ⟨r1, r2⟩ := rises x y hA' hB' (by omega)
  simp -implicitDefEqProofs only [Option.bind_some]
  rw [if_pos r1, r2]
end Go.Proofs.Ytmepclalglmleaa.Pure
