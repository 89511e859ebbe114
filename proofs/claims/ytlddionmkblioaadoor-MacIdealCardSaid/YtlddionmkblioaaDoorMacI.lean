/- An ideal maker, whatever it made before. -/
import Derived.Test.YtlddionmkblioaaDoorMacL
namespace Go.Proofs.YtlddionmkblioaaDoor.Pure
open Go.RowKit Go.Proofs.YtlddionmkblioaaDoorW.PrintWords Go.Proofs.YtlddionmkblioaaDoorW.PrintLast Go.Proofs.YtlddionmkblioaaDoorW.PrintMore Go.Proofs.YtlddionmkblioaaDoor.Pr Go.Proofs.YtlddionmkblioaaDoor.E
set_option linter.unusedVariables false
set_option linter.unusedSimpArgs false
def addM (made : List (List Int)) (x : List Int) : List (List Int) := if x ∈ made then made else x :: made
def codeM (made : List (List Int)) (x : List Int) : List Int := (icode made x).getD (idealC made.length x)
theorem icode_mem {made : List (List Int)} {x c : List Int} (h : icode made x = some c) : x ∈ made := by
  by_cases hx : x ∈ made
  · exact hx
  · rw [(icode_none_iff x made).2 hx] at h; cases h
theorem icode_cons_self (made : List (List Int)) (x : List Int) : icode (x :: made) x = some (idealC made.length x) := by
  show (if x = x then some (idealC made.length x) else icode made x) = _
  rw [if_pos rfl]
theorem icode_add_self (made : List (List Int)) (x : List Int) : icode (addM made x) x = some (codeM made x) := by
  unfold addM codeM
  by_cases hx : x ∈ made
  · rw [if_pos hx]
    cases h : icode made x with
    | none => exact absurd hx ((icode_none_iff x made).1 h)
    | some c => rfl
  · rw [if_neg hx, (icode_none_iff x made).2 hx, icode_cons_self]
    rfl
theorem icode_add_keep {made : List (List Int)} {x y c : List Int} (h : icode made y = some c) : icode (addM made x) y = some c := by
  unfold addM
  by_cases hx : x ∈ made
  · rw [if_pos hx, h]
  · rw [if_neg hx]
    show (if x = y then some (idealC made.length x) else icode made y) = _
    by_cases e : x = y
    · subst e; exact absurd (icode_mem h) hx
    · rw [if_neg e, h]
theorem addM_rows {made : List (List Int)} {x : List Int} (hM : ByteRows made) (hx : ∀ y ∈ x, 0 ≤ y ∧ y ≤ 255) (hl : x.length ≤ 900000) : ByteRows (addM made x) := by
  unfold addM
  by_cases h : x ∈ made
  · rw [if_pos h]; exact hM
  · rw [if_neg h]
    intro m hm
    rcases List.mem_cons.1 hm with rfl | hm
    · exact ⟨hx, hl⟩
    · exact hM m hm
theorem addM_nodup {made : List (List Int)} {x : List Int} (h : made.Nodup) : (addM made x).Nodup := by
  unfold addM
  by_cases hx : x ∈ made
  · rw [if_pos hx]; exact h
  · rw [if_neg hx]; exact List.nodup_cons.2 ⟨hx, h⟩
theorem addM_len (made : List (List Int)) (x : List Int) : (addM made x).length ≤ made.length + 1 := by
  unfold addM
  split
  · omega
  · rw [List.length_cons]; omega
theorem codeM_len (made : List (List Int)) (x : List Int) : (codeM made x).length = 32 ∧ ∀ y ∈ codeM made x, 0 ≤ y ∧ y ≤ 255 := icode_len (icode_add_self made x)
def MakeAny (p b : Nat) (made : List (List Int)) (x : List Int) (X : World) (e : Ending) (w' : World) : Prop :=
  ∃ v, e = .returned v ∧ NewRow X.heap.size (codeM made x) v w' ∧ IdealS p b (addM made x) w' ∧ X.grownBy w' (some b)
theorem imake_any (p b : Nat) (made : List (List Int)) (A1 : Option Addr) (c1 : Nat) (l1 : List Int) (W : World) (hI : IdealS p b made W) (hpb : p ≠ b) (hM : ByteRows made)
    (hr1 : Kd.C (Kd.int .u8) W A1 l1.length l1) (hc1 : l1.length ≤ c1) (hb1 : ∀ x ∈ l1, 0 ≤ x ∧ x ≤ 255) (hl1 : l1.length ≤ 900000) (hn : made.Nodup) (hml : made.length < 1000000) (hG : RootsIn W) :
    Calls Tryd.prog 53 #[.pointer (some ⟨p, 0, none⟩), .slice A1 l1.length c1] W (MakeAny p b made l1 W) := by
  by_cases hx : l1 ∈ made
  · have hc : icode made l1 = some (codeM made l1) := by
      have := icode_add_self made l1
      unfold addM at this
      rwa [if_pos hx] at this
    have ha : addM made l1 = made := if_pos hx
    refine (imake_old p b made A1 c1 l1 W hI hpb hM hr1 hc1 hb1 hl1 _ hc).mono ?_
    rintro e w' ⟨v, rfl, hv, hb⟩
    exact ⟨v, rfl, hv, by rw [ha]; exact hI.below hb, ⟨hb.os, hb.tape, hb.output, hb.size, fun k hk _ => hb.block k hk⟩⟩
  · have hc : icode made l1 = none := (icode_none_iff l1 made).2 hx
    have ha : addM made l1 = l1 :: made := if_neg hx
    have hcm : codeM made l1 = idealC made.length l1 := by unfold codeM; rw [hc]; rfl
    refine (imake_new p b made A1 c1 l1 W hI hpb hM hr1 hc1 hb1 hl1 hn hml hG hI.lt.2 hc).mono ?_
    rintro e w' ⟨v, rfl, hv, hI', hg⟩
    exact ⟨v, rfl, by rw [hcm]; exact hv, by rw [ha]; exact hI', hg⟩
theorem NewRow_form {n0 : Nat} {H : List Int} {v : Value} {w : World} (h : NewRow n0 H v w) : ∃ g d, v = .slice (some ⟨g, 0, none⟩) H.length d ∧ n0 ≤ g ∧ H.length ≤ d ∧ Kd.C (Kd.int .u8) w (some ⟨g, 0, none⟩) H.length H := by
  obtain ⟨g, d, lo, hi, cells, rfl, h1, -, -, h4, h5⟩ := h
  exact ⟨g, d, rfl, h1, h4, h5⟩
end Go.Proofs.YtlddionmkblioaaDoor.Pure

