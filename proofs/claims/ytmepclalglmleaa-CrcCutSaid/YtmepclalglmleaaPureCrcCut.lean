import Derived.Test.YtmepclalglmleaaF9
namespace Go.Proofs.Ytmepclalglmleaa.Pure
open Go.RowKit Go.Proofs.Ytmepclalglmleaa.Pr Go.Proofs.Ytmepclalglmleaa.E Go.Proofs.YtmepclalglmleaaW.PrintWords Go.Proofs.YtmepclalglmleaaW.PrintLast
theorem valN_fold (l : List Int) (m : Nat) : l.foldl (fun n c => 256 * n + c.toNat) m = 256 ^ l.length * m + valN l := by
  induction l generalizing m with
  | nil => simp [valN]
  | cons a l ih =>
    have h1 : valN (a :: l) = l.foldl (fun n c => 256 * n + c.toNat) (256 * 0 + a.toNat) := rfl
    rw [h1, List.foldl_cons, ih, ih, List.length_cons, Nat.pow_succ, Nat.mul_zero, Nat.zero_add, Nat.mul_add, Nat.add_assoc, Nat.mul_assoc]
theorem valN_beN (n : Nat) : ∀ k, valN (beN n k) = n % 256 ^ k
  | 0 => by simp [beN, valN, Nat.mod_one]
  | k + 1 => by
    have h1 : valN (beN n (k + 1)) = (beN n k).foldl (fun n c => 256 * n + c.toNat) (256 * 0 + ((n / 256 ^ k % 256 : Nat) : Int).toNat) := rfl
    rw [h1, valN_fold, beN_length, valN_beN n k, Nat.mul_zero, Nat.zero_add, Int.toNat_natCast, Nat.pow_succ, Nat.mod_mul]
    omega
theorem frameL_len (n : Nat) (l : List Int) : (frameL n l).length = l.length + 16 := by
  unfold frameL frontL
  simp only [List.length_append, beN_length]
  omega
theorem frameL_bytes (n : Nat) (l : List Int) (h : ∀ x ∈ l, 0 ≤ x ∧ x ≤ 255) : ∀ x ∈ frameL n l, 0 ≤ x ∧ x ≤ 255 := by
  intro x hx
  unfold frameL frontL at hx
  simp only [List.mem_append] at hx
  rcases hx with ((hx | hx) | hx) | hx
  · exact beN_BL _ _ x hx
  · exact beN_BL _ _ x hx
  · exact beN_BL _ _ x hx
  · exact h x hx
theorem frameL_parts (n : Nat) (l : List Int) (hl : l.length ≤ 65536) (hb : ∀ x ∈ l, 0 ≤ x ∧ x ≤ 255) :
    valN ((frameL n l).take 4) = l.length ∧ crcN ((frameL n l).take 12 ++ (frameL n l).drop 16) = valN (((frameL n l).drop 12).take 4) := by
  have l1 : (beN l.length 4).length = 4 := beN_length _ _
  have l2 : (beN n 8).length = 8 := beN_length _ _
  have l12 : (frontL n l).length = 12 := by unfold frontL; rw [List.length_append, l1, l2]
  obtain ⟨C, hC⟩ : ∃ C, C = crcN (frontL n l ++ l) := ⟨_, rfl⟩
  have l3 : (beN C 4).length = 4 := beN_length _ _
  have l16 : (frontL n l ++ beN C 4).length = 16 := by rw [List.length_append, l12, l3]
  have hf : frameL n l = frontL n l ++ beN C 4 ++ l := by rw [hC]; rfl
  have hCl : C < 4294967296 := by
    rw [hC]
    refine crcN_lt ?_
    intro x hx
    unfold frontL at hx
    simp only [List.mem_append] at hx
    rcases hx with (hx | hx) | hx
    · exact beN_BL _ _ x hx
    · exact beN_BL _ _ x hx
    · exact hb x hx
  have t12 : (frameL n l).take 12 = frontL n l := by
    rw [hf, List.append_assoc, ← l12, List.take_left]
  have d16 : (frameL n l).drop 16 = l := by
    rw [hf, ← l16, List.drop_left]
  have d12 : ((frameL n l).drop 12).take 4 = beN C 4 := by
    rw [hf, List.append_assoc, List.drop_left' l12, List.take_left' l3]
  have t4 : (frameL n l).take 4 = beN l.length 4 := by
    rw [hf]; unfold frontL
    rw [List.append_assoc, List.append_assoc, List.take_left' l1]
  rw [t12, d16, d12, t4, valN_beN, valN_beN, ← hC]
  constructor
  · exact Nat.mod_eq_of_lt (by omega)
  · exact (Nat.mod_eq_of_lt (by omega)).symm
theorem cut_none (F : List Int) (n c : Nat) (hF : F.length = n + 16) (h4 : valN (F.take 4) = n) (hc : c < F.length) : (nextL (F.take c)).2.2 = 0 := by
  unfold nextL
  have hl : (F.take c).length = c := by rw [List.length_take]; omega
  rw [hl]
  split
  · rfl
  · rename_i h16
    have e : (F.take c).take 4 = F.take 4 := by rw [List.take_take, Nat.min_eq_left (by omega)]
    rw [e, h4, if_pos (by right; omega)]
theorem next_self (F : List Int) (n : Nat) (hF : F.length = n + 16) (hn : n ≤ 65536) (h4 : valN (F.take 4) = n) (hs : crcN (F.take 12 ++ F.drop 16) = valN ((F.drop 12).take 4)) : (nextL F).2.2 = ((n + 16 : Nat) : Int) := by
  unfold nextL
  have e : (F.drop 16).take n = F.drop 16 := List.take_of_length_le (by rw [List.length_drop]; omega)
  rw [if_neg (by omega), h4, if_neg (by omega), e, if_neg (by rw [hs]; exact fun h => h rfl)]
  show ((16 + n : Nat) : Int) = _
  omega
theorem next_whole {F : List Int} {n : Nat} (hF : F.length = n + 16) (h : (nextL F).2.2 = ((n + 16 : Nat) : Int)) : valN (F.take 4) = n ∧ crcN (F.take 12 ++ F.drop 16) = valN ((F.drop 12).take 4) := by
  unfold nextL at h
  rw [if_neg (by omega)] at h
  split at h
  · exact absurd h (by show ¬ ((0 : Int) = _); omega)
  · split at h
    · exact absurd h (by show ¬ ((0 : Int) = _); omega)
    · rename_i h1 h2
      have h3 : ((16 + valN (F.take 4) : Nat) : Int) = ((n + 16 : Nat) : Int) := h
      have h4 : valN (F.take 4) = n := by omega
      rw [h4] at h2
      have e : (F.drop 16).take n = F.drop 16 := List.take_of_length_le (by rw [List.length_drop]; omega)
      rw [e] at h2
      exact ⟨h4, Classical.not_not.mp h2⟩
theorem rd_take {l : List Int} {p k : Nat} (h : p < k) : rd (l.take k) (p : Int) = rd l (p : Int) := by
  simp [rd, List.getD_eq_getElem?_getD, List.getElem?_take, h]
theorem rd_drop (l : List Int) (p k : Nat) : rd (l.drop k) (p : Int) = rd l ((k + p : Nat) : Int) := by
  simp only [rd, List.getD_eq_getElem?_getD, List.getElem?_drop, Int.toNat_natCast]
theorem one_byte (F : List Int) (n p : Nat) (v : Int) (hF : F.length = n + 16) (hn : n ≤ 65536) (hb : ∀ x ∈ F, 0 ≤ x ∧ x ≤ 255) (h4 : valN (F.take 4) = n) (hs : crcN (F.take 12 ++ F.drop 16) = valN ((F.drop 12).take 4)) (hp : p < F.length) (hv : 0 ≤ v ∧ v ≤ 255) :
    ((nextL (F.set p v)).2.2 = ((n + 16 : Nat) : Int)) ↔ v = rd F p := by
  constructor
  · intro h
    obtain ⟨g4, gs⟩ := next_whole (by rw [List.length_set]; exact hF) h
    have bt : ∀ k, ∀ x ∈ F.take k, 0 ≤ x ∧ x ≤ 255 := fun k x hx => hb x (List.mem_of_mem_take hx)
    have bd : ∀ k, ∀ x ∈ F.drop k, 0 ≤ x ∧ x ≤ 255 := fun k x hx => hb x (List.mem_of_mem_drop hx)
    by_cases c1 : p < 4
    · rw [List.take_set] at g4
      have := valN_cons_set (l := F.take 4) (p := p) (v := v) (by rw [List.length_take]; omega) (bt 4) hv (by rw [g4, h4])
      rw [this, rd_take c1]
    · by_cases c2 : p < 12
      · rw [List.take_set, List.drop_set_of_lt (by omega), List.drop_set_of_lt (by omega)] at gs
        have e : (F.take 12).set p v ++ F.drop 16 = (F.take 12 ++ F.drop 16).set p v := by
          rw [List.set_append_left _ _ (by rw [List.length_take]; omega)]
        rw [e, ← hs] at gs
        have := crcN_set (by rw [List.length_append, List.length_take, List.length_drop]; omega) (by
          intro x hx
          rcases List.mem_append.1 hx with hx | hx
          · exact bt 12 x hx
          · exact bd 16 x hx) hv gs
        rw [this]
        simp only [rd, List.getD_eq_getElem?_getD, Int.toNat_natCast]
        rw [List.getElem?_append_left (by rw [List.length_take]; omega), List.getElem?_take, if_pos c2]
      · by_cases c3 : p < 16
        · rw [List.take_set_of_le (by omega), List.drop_set_of_lt (by omega), hs, List.drop_set, if_neg (by omega), List.take_set] at gs
          have := valN_cons_set (l := (F.drop 12).take 4) (p := p - 12) (v := v) (by rw [List.length_take, List.length_drop]; omega) (fun x hx => bd 12 x (List.mem_of_mem_take hx)) hv gs.symm
          rw [this, rd_take (by omega), rd_drop, show 12 + (p - 12) = p by omega]
        · rw [List.take_set_of_le (by omega), List.drop_set, if_neg (by omega), List.drop_set, if_neg (by omega), List.take_set_of_le (by omega), ← hs] at gs
          have l12 : (F.take 12).length = 12 := by rw [List.length_take]; omega
          have e : F.take 12 ++ (F.drop 16).set (p - 16) v = (F.take 12 ++ F.drop 16).set (12 + (p - 16)) v := by
            rw [List.set_append_right _ _ (by omega), l12, Nat.add_sub_cancel_left]
          rw [e] at gs
          have := crcN_set (by rw [List.length_append, l12, List.length_drop]; omega) (by
            intro x hx
            rcases List.mem_append.1 hx with hx | hx
            · exact bt 12 x hx
            · exact bd 16 x hx) hv gs
          rw [this]
          simp only [rd, List.getD_eq_getElem?_getD, Int.toNat_natCast]
          rw [List.getElem?_append_right (by omega), l12, List.getElem?_drop, show 16 + (12 + (p - 16) - 12) = p by omega]
  · rintro rfl
    have e : F.set p (rd F p) = F := by
      apply List.ext_getElem (by simp)
      intro i h1 h2
      rw [List.getElem_set]
      split
      · rename_i hpi
        subst hpi
        simp [rd, List.getD_eq_getElem?_getD, hp]
      · rfl
    rw [e]
    exact next_self F n hF hn h4 hs
theorem CrcCut : wicketmanlaw13_CrcCut.Pure := by
  intro a0 l1 a2 a3 h0 hm hq hall h2 h3
  have h0' : 0 ≤ a0 ∧ a0 < 18446744073709551616 := by exact wf_u64 h0
  have h2' : 0 ≤ a2 ∧ a2 < 65536 := by exact wf_u16 h2
  have h3' : 0 ≤ a3 ∧ a3 < 256 := by have := wf_u8 h3; omega
  have hall' : ∀ x ∈ l1, 0 ≤ x ∧ x ≤ 255 := by
    intro x hx
    exact wf_u8 (hall x hx)
  clear h0 h2 h3 hall hm hq
  refine ⟨1, ?_⟩
  have hkn : wicketmanlaw13_known.f = some true := rfl
  unfold wicketmanlaw13_CrcCut.f
  by_cases c : (l1.length : Int) > 300
  · rw [if_pos c, hkn]; rfl
  · rw [if_neg c]
    have hf : crc_Frame.f a0 l1 = some (frameL a0.toNat l1, 0) := by
      unfold crc_Frame.f
      rw [if_neg (by omega), if_pos ⟨h0', hall'⟩]
    rw [hf, Option.bind_some, if_pos rfl]
    obtain ⟨p4, ps⟩ := frameL_parts a0.toNat l1 (by omega) hall'
    have hFl := frameL_len a0.toNat l1
    have hFb := frameL_bytes a0.toNat l1 hall'
    obtain ⟨F, hF⟩ : ∃ F, F = frameL a0.toNat l1 := ⟨_, rfl⟩
    show wicketmanlaw13_CrcCut.j0 1 a2 a3 (frameL a0.toNat l1) (((frameL a0.toNat l1).length : Int) != wrap64 (16 + (l1.length : Int))) = some true
    rw [← hF] at p4 ps hFl hFb ⊢
    clear hf
    have e1 : wrap64 (16 + (l1.length : Int)) = 16 + (l1.length : Int) := by unfold wrap64; omega
    have e2 : ((F.length : Int) != wrap64 (16 + (l1.length : Int))) = false := by rw [e1, bne_eq_false_iff_eq]; omega
    have e3 : wrap64 a2 = a2 := by unfold wrap64; omega
    obtain ⟨m, rfl⟩ : ∃ m : Nat, a2 = (m : Int) := ⟨a2.toNat, by omega⟩
    obtain ⟨q, hq, hql⟩ : ∃ q, q = m % F.length ∧ q < F.length := ⟨_, rfl, Nat.mod_lt _ (by omega)⟩
    have e4 : Int.tmod (m : Int) (F.length : Int) = (q : Int) := by rw [Int.tmod_eq_emod_of_nonneg (by omega)]; rw [hq]; exact (Int.natCast_emod _ _).symm
    simp only [wicketmanlaw13_CrcCut.j0]
    rw [e2, if_neg (by decide), if_neg (by omega), e3, e4, if_pos (by omega), if_pos (by omega), Int.toNat_natCast]
    have n1 : crc_Next.f (F.take q) = some (nextL (F.take q)) := by
      unfold crc_Next.f
      rw [if_pos]
      refine ⟨by rw [List.length_take]; omega, fun x hx => hFb x (List.mem_of_mem_take hx)⟩
    have n2 : crc_Next.f (F.set q a3) = some (nextL (F.set q a3)) := by
      unfold crc_Next.f
      rw [if_pos]
      refine ⟨by rw [List.length_set]; omega, fun x hx => ?_⟩
      rcases List.mem_or_eq_of_mem_set hx with hx | hx
      · exact hFb x hx
      · omega
    have k1 := cut_none F l1.length q hFl p4 hql
    have k2 := one_byte F l1.length q a3 hFl (by omega) hFb p4 ps hql (by omega)
    rw [n1, Option.bind_some, if_pos (by omega), n2, Option.bind_some, hkn, Option.bind_some, if_pos rfl, if_pos k1, hFl]
    congr 1
    rw [beq_iff_eq, Bool.eq_iff_iff, beq_iff_eq, beq_iff_eq]
    exact k2
end Go.Proofs.Ytmepclalglmleaa.Pure
