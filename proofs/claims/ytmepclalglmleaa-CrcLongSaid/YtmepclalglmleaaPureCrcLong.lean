import Derived.Test.YtmepclalglmleaaF11
namespace Go.Proofs.Ytmepclalglmleaa.Pure
open Go.RowKit Go.Proofs.Ytmepclalglmleaa.Pr Go.Proofs.Ytmepclalglmleaa.E Go.Proofs.YtmepclalglmleaaW.PrintWords Go.Proofs.YtmepclalglmleaaW.PrintLast
theorem frame_z (a1 : Int) (k : Nat) (h : 0 ≤ a1 ∧ a1 < 18446744073709551616) : crc_Frame.f a1 (List.replicate k 0) = some (if k > 65536 then ([], 3) else (frameL a1.toNat (List.replicate k 0), 0)) := by
  unfold crc_Frame.f
  rw [List.length_replicate]
  split
  · rfl
  · rw [if_pos]
    refine ⟨h, ?_⟩
    intro x hx
    rw [List.eq_of_mem_replicate hx]
    decide
theorem frameL_length (n : Nat) (l : List Int) : (frameL n l).length = l.length + 16 := by
  unfold frameL frontL
  simp only [List.length_append, beN_length]
  omega
theorem CrcLong : wicketmanlaw13_CrcLong.Pure := by
  intro a0 a1 h0 h1
  have h1' : 0 ≤ a1 ∧ a1 < 18446744073709551616 := by
    exact wf_u64 h1
  have h0' : 0 ≤ a0 ∧ a0 < 4294967296 := by
    exact wf_u32 h0
  obtain ⟨n, rfl⟩ : ∃ n : Nat, a0 = (n : Int) := ⟨a0.toNat, by omega⟩
  have e1 : Int.tmod (n : Int) 70000 = ((n % 70000 : Nat) : Int) := by rw [Int.tmod_eq_emod_of_nonneg (by omega)]; omega
  obtain ⟨k, hk, hkl⟩ : ∃ k, k = n % 70000 ∧ k < 70000 := ⟨_, rfl, Nat.mod_lt _ (by decide)⟩
  have e2 : wrap64 (Int.tmod (n : Int) 70000) = (k : Int) := by rw [e1, hk]; unfold wrap64; omega
  have e3 : wrap64 ((k : Int) + 16) = (k : Int) + 16 := by unfold wrap64; omega
  have hkn : wicketmanlaw13_known.f = some true := rfl
  unfold wicketmanlaw13_CrcLong.f
  rw [e2, e3, if_pos (Int.natCast_nonneg k), Int.toNat_natCast, if_pos (by omega), frame_z a1 k h1', Option.bind_some, hkn, Option.bind_some, if_pos rfl]
  clear e1 e2 e3 hk h0
  rcases Nat.lt_or_ge 65536 k with h | h
  · rw [if_pos h]
    have hd : decide ((k : Int) ≤ 65536) = false := decide_eq_false (by omega)
    rw [hd, if_pos (by decide), if_neg (by decide), if_pos rfl]
    rfl
  · have hk : ¬ (k > 65536) := by omega
    rw [if_neg hk]
    have hd : decide ((k : Int) ≤ 65536) = true := decide_eq_true (by omega)
    have hz : (((frameL a1.toNat (List.replicate k 0), (0 : Int)).2 == 0) == true) = true := rfl
    rw [hd, if_pos hz, if_pos rfl, if_pos]
    show ((frameL a1.toNat (List.replicate k 0)).length : Int) = _
    rw [frameL_length, List.length_replicate]
    omega
end Go.Proofs.Ytmepclalglmleaa.Pure
