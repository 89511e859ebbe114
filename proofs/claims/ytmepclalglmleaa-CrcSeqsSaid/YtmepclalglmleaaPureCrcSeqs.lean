import Derived.Test.YtmepclalglmleaaF14
import Derived.Test.YtmepclalglmleaaQ
namespace Go.Proofs.Ytmepclalglmleaa.Pure
open Go.RowKit Go.Proofs.Ytmepclalglmleaa.Pr Go.Proofs.Ytmepclalglmleaa.E Go.Proofs.YtmepclalglmleaaW.PrintWords Go.Proofs.YtmepclalglmleaaW.PrintLast
theorem frame_some (a : Int) (l : List Int) (ha : 0 ≤ a ∧ a < 18446744073709551616) (hl : l.length ≤ 65536) (hb : ∀ x ∈ l, 0 ≤ x ∧ x ≤ 255) : crc_Frame.f a l = some (frameL a.toNat l, 0) := by
  unfold crc_Frame.f
  rw [if_neg (by omega), if_pos ⟨ha, hb⟩]
theorem CrcSeqs : wicketmanlaw13_CrcSeqs.Pure := by
  intro a0 l1 l2 h0 hm1 hq1 hall1 hm2 hq2 hall2
  have h0' := wf_u64 h0
  have hb1 : ∀ x ∈ l1, 0 ≤ x ∧ x ≤ 255 := fun x hx => wf_u8 (hall1 x hx)
  have hb2 : ∀ x ∈ l2, 0 ≤ x ∧ x ≤ 255 := fun x hx => wf_u8 (hall2 x hx)
  clear h0 hall1 hall2 hm1 hm2
  have hkn : wicketmanlaw13_known.f = some true := rfl
  have e1 : wrap64 ((l1.length : Int) + (l2.length : Int)) = (l1.length : Int) + (l2.length : Int) := by unfold wrap64; omega
  unfold wicketmanlaw13_CrcSeqs.f
  rw [e1]
  clear e1
  by_cases c : (l1.length : Int) + (l2.length : Int) > 300
  · rw [if_pos c, hkn]; rfl
  · rw [if_neg c, frame_some 18446744073709551615 l1 (by omega) (by omega) hb1, Option.bind_some, frame_some 0 l2 (by omega) (by omega) hb2, Option.bind_some]
    have ef : (18446744073709551615 : Int).toNat = 18446744073709551615 := rfl
    have e0 : (0 : Int).toNat = 0 := rfl
    rw [ef, e0]
    have hl1 := frameL_len 18446744073709551615 l1
    have hl2 := frameL_len 0 l2
    have hrow : frameL 18446744073709551615 l1 ++ frameL 0 l2 = rowN 18446744073709551615 [l1, l2] ++ [] := by
      simp only [rowN, List.append_nil]
    have hlen : (frameL 18446744073709551615 l1 ++ frameL 0 l2).length = l1.length + l2.length + 32 := by rw [List.length_append, hl1, hl2]; omega
    have hall := allP_row [l1, l2] 18446744073709551615 ((frameL 18446744073709551615 l1 ++ frameL 0 l2).length + 1) [] (by decide) (by rw [hlen]; simp only [List.length_cons, List.length_nil]; omega) (by
      intro l hl
      simp only [List.mem_cons, List.mem_nil_iff, or_false] at hl
      rcases hl with rfl | rfl
      · exact ⟨by omega, hb1⟩
      · exact ⟨by omega, hb2⟩) (by rw [nextL_nil])
    rw [← hrow] at hall
    have hA : crc_All.f (frameL 18446744073709551615 l1 ++ frameL 0 l2) 18446744073709551615 = some ([l1, l2], (((frameL 18446744073709551615 l1 ++ frameL 0 l2).length : Nat) : Int)) := by
      unfold crc_All.f
      rw [if_pos ⟨by rw [hlen]; omega, by
        intro x hx
        rcases List.mem_append.1 hx with hx | hx
        · exact frameL_bytes _ _ hb1 x hx
        · exact frameL_bytes _ _ hb2 x hx, by decide, by decide⟩, ef, hall.1, hall.2]
      congr 3
      rw [hrow, List.append_nil]
    have hF := frame_some a0 l1 h0' (by omega) hb1
    have hN : crc_Next.f (frameL a0.toNat l1) = some (a0, l1, ((16 + l1.length : Nat) : Int)) := by
      unfold crc_Next.f
      rw [if_pos ⟨by rw [frameL_len]; omega, frameL_bytes _ _ hb1⟩]
      have := nextL_frame a0.toNat l1 [] (by omega) hb1 (by omega)
      rw [List.append_nil] at this
      rw [this, Int.toNat_of_nonneg h0'.1]
    have hl3 := frameL_len a0.toNat l1
    clear hall hrow ef e0
    show (if ([] : List Int).length + (frameL 18446744073709551615 l1).length < 140737488355328 then _ else none) = some true
    rw [if_pos (by rw [hl1, List.length_nil]; omega), Option.bind_some]
    show (if ([] ++ frameL 18446744073709551615 l1 : List Int).length + (frameL 0 l2).length < 140737488355328 then _ else none) = some true
    rw [List.nil_append, if_pos (by rw [hl1, hl2]; omega), Option.bind_some, hA, Option.bind_some, hF, Option.bind_some, hN, Option.bind_some, hkn, Option.bind_some, if_pos rfl, if_pos rfl, if_pos rfl, if_pos rfl, if_pos rfl, if_pos rfl, if_pos rfl]
    have h2 : (([l1, l2] : List (List Int)).length : Int) = 2 := rfl
    refine (if_pos h2).trans ?_
    congr 1
    rw [beq_iff_eq]
    show ((16 + l1.length : Nat) : Int) = ((frameL a0.toNat l1).length : Int)
    rw [hl3]; omega
end Go.Proofs.Ytmepclalglmleaa.Pure
