/- What Next and All tell of frames, in plain numbers. -/
import Derived.Test.YtmepclalglmleaaC7
namespace Go.Proofs.Ytmepclalglmleaa.E
open Go.RowKit Go.Proofs.YtmepclalglmleaaW.PrintWords Go.Proofs.YtmepclalglmleaaW.PrintLast Go.Proofs.Ytmepclalglmleaa.Pr
theorem valN_fold (l : List Int) (m : Nat) : l.foldl (fun n c => 256 * n + c.toNat) m = 256 ^ l.length * m + valN l := by
  induction l generalizing m with
  | nil => simp [valN]
  | cons a l ih =>
    have h1 : valN (a :: l) = l.foldl (fun n c => 256 * n + c.toNat) (256 * 0 + a.toNat) := rfl
    rw [h1, List.foldl_cons, ih, ih, List.length_cons, Nat.pow_succ, Nat.mul_zero, Nat.zero_add, Nat.mul_add, Nat.add_assoc, Nat.mul_assoc]
theorem valN_beN (n : Nat) : ∀ k, valN (beN n k) = n % 256 ^ k
  | 0 => by simp [beN, valN, Nat.mod_one]
  | k + 1 => by
    have h1 : valN (beN n (k + 1)) = (beN n k).foldl (fun n c => 256 * n + c.toNat) (256 * 0 + ((n / 256 ^ k % 256 : Nat) : Int).toNat) := rfl
    rw [h1, valN_fold, beN_length, valN_beN n k, Nat.mul_zero, Nat.zero_add, Int.toNat_natCast, Nat.pow_succ, Nat.mod_mul]
    omega
theorem frontL_length (n : Nat) (l : List Int) : (frontL n l).length = 12 := by unfold frontL; rw [List.length_append, beN_length, beN_length]
theorem frontL_bytes (n : Nat) (l : List Int) : ∀ x ∈ frontL n l, 0 ≤ x ∧ x ≤ 255 := by
  intro x hx
  unfold frontL at hx
  rcases List.mem_append.1 hx with hx | hx
  · exact beN_BL _ _ x hx
  · exact beN_BL _ _ x hx
theorem frameL_len (n : Nat) (l : List Int) : (frameL n l).length = l.length + 16 := by
  unfold frameL
  rw [List.length_append, List.length_append, frontL_length, beN_length]; omega
theorem frameL_bytes (n : Nat) (l : List Int) (h : ∀ x ∈ l, 0 ≤ x ∧ x ≤ 255) : ∀ x ∈ frameL n l, 0 ≤ x ∧ x ≤ 255 := by
  intro x hx
  unfold frameL at hx
  rcases List.mem_append.1 hx with hx | hx
  · rcases List.mem_append.1 hx with hx | hx
    · exact frontL_bytes n l x hx
    · exact beN_BL _ _ x hx
  · exact h x hx
theorem nextL_frame (n : Nat) (l rest : List Int) (hl : l.length ≤ 65536) (hb : ∀ x ∈ l, 0 ≤ x ∧ x ≤ 255) (hn : n < 18446744073709551616) : nextL (frameL n l ++ rest) = ((n : Int), l, ((16 + l.length : Nat) : Int)) := by
  have l12 := frontL_length n l
  obtain ⟨C, hC⟩ : ∃ C, C = crcN (frontL n l ++ l) := ⟨_, rfl⟩
  have hCl : C < 4294967296 := by
    rw [hC]
    refine crcN_lt fun x hx => ?_
    rcases List.mem_append.1 hx with hx | hx
    · exact frontL_bytes n l x hx
    · exact hb x hx
  have l3 : (beN C 4).length = 4 := beN_length _ _
  have hf : frameL n l ++ rest = frontL n l ++ (beN C 4 ++ (l ++ rest)) := by
    rw [hC]; unfold frameL; simp only [List.append_assoc]
  have l16 : (frontL n l ++ beN C 4).length = 16 := by rw [List.length_append, l12, l3]
  have t12 : (frameL n l ++ rest).take 12 = frontL n l := by rw [hf, List.take_left' l12]
  have d12 : ((frameL n l ++ rest).drop 12).take 4 = beN C 4 := by rw [hf, List.drop_left' l12, List.take_left' l3]
  have d16 : (frameL n l ++ rest).drop 16 = l ++ rest := by rw [hf, ← List.append_assoc, List.drop_left' l16]
  have t4 : (frameL n l ++ rest).take 4 = beN l.length 4 := by
    rw [hf]; unfold frontL
    rw [List.append_assoc, List.take_left' (beN_length _ _)]
  have v4 : valN ((frameL n l ++ rest).take 4) = l.length := by
    rw [t4, valN_beN]; exact Nat.mod_eq_of_lt (by omega)
  have hlen : (frameL n l ++ rest).length = l.length + 16 + rest.length := by rw [List.length_append, frameL_len]
  unfold nextL
  rw [v4, t12, d12, d16, List.take_left' rfl, hlen, if_neg (by omega), if_neg (by omega), valN_beN, ← hC, if_neg (by
    intro h
    exact h (Nat.mod_eq_of_lt (by omega)).symm)]
  have hs : valN ((frontL n l).drop 4) = n := by
    unfold frontL
    rw [List.drop_left' (beN_length _ _), valN_beN]
    exact Nat.mod_eq_of_lt (by omega)
  rw [hs]
theorem nextL_nil : nextL [] = (0, [], 0) := rfl
/-- All of a row of frames that rise. -/
def rowN : Nat → List (List Int) → List Int
  | _, [] => []
  | n, l :: ls => frameL n l ++ rowN ((n + 1) % 18446744073709551616) ls
theorem allP_shift : ∀ (k : Nat) (a l : List Int) (p s : Nat), allP k (a ++ l) (a.length + p) s = (allP k l p s).map (fun x => (x.1, a.length + x.2))
  | 0, _, _, _, _ => rfl
  | k + 1, a, l, p, s => by
    have h : (a ++ l).drop (a.length + p) = l.drop p := by rw [← List.drop_drop, List.drop_left]
    unfold allP
    rw [h]
    split
    · rfl
    · rw [List.map_cons, ← allP_shift k a l, Nat.add_assoc]
theorem allP_row : ∀ (ls : List (List Int)) (n k : Nat) (rest : List Int), n < 18446744073709551616 → ls.length < k → (∀ l ∈ ls, l.length ≤ 65536 ∧ ∀ x ∈ l, 0 ≤ x ∧ x ≤ 255) →
    (nextL rest).2.2 = 0 →
    (allP k (rowN n ls ++ rest) 0 n).map (·.1) = ls ∧ endOf (allP k (rowN n ls ++ rest) 0 n) = (rowN n ls).length
  | [], n, k, rest, hn, hk, hb, hr => by
    obtain ⟨k, rfl⟩ : ∃ j, k = j + 1 := ⟨k - 1, by simp at hk; omega⟩
    unfold allP
    rw [if_pos (by left; simpa [rowN] using hr)]
    exact ⟨rfl, rfl⟩
  | l :: ls, n, k, rest, hn, hk, hb, hr => by
    obtain ⟨k, rfl⟩ : ∃ j, k = j + 1 := ⟨k - 1, by simp at hk; omega⟩
    have hl := hb l List.mem_cons_self
    have ih := allP_row ls ((n + 1) % 18446744073709551616) k rest (Nat.mod_lt _ (by decide)) (by simp at hk; omega) (fun l hl => hb l (List.mem_cons_of_mem _ hl)) hr
    have hnx : nextL ((rowN n (l :: ls) ++ rest).drop 0) = ((n : Int), l, ((16 + l.length : Nat) : Int)) := by
      rw [List.drop_zero, rowN, List.append_assoc]
      exact nextL_frame n l _ hl.1 hl.2 hn
    unfold allP
    rw [hnx, if_neg (by
      rintro (h | h)
      · have h' : ((16 + l.length : Nat) : Int) = 0 := h
        omega
      · exact h rfl)]
    have e0 : (0 : Nat) + (((n : Int), l, ((16 + l.length : Nat) : Int)) : Int × List Int × Int).2.2.toNat = (frameL n l).length + 0 := by
      show 0 + ((16 + l.length : Nat) : Int).toNat = _
      rw [Int.toNat_natCast, frameL_len]; omega
    rw [e0]
    have hsh : allP k (rowN n (l :: ls) ++ rest) ((frameL n l).length + 0) ((n + 1) % 18446744073709551616) = (allP k (rowN ((n + 1) % 18446744073709551616) ls ++ rest) 0 ((n + 1) % 18446744073709551616)).map (fun x => (x.1, (frameL n l).length + x.2)) := by
      rw [rowN, List.append_assoc]
      exact allP_shift k (frameL n l) _ 0 _
    rw [hsh]
    refine ⟨?_, ?_⟩
    · rw [List.map_cons, List.map_map]
      have : ((fun x : List Int × Nat => x.1) ∘ fun x : List Int × Nat => (x.1, (frameL n l).length + x.2)) = fun x => x.1 := rfl
      rw [this, ih.1]
    · rw [rowN, List.length_append, ← ih.2]
      generalize allP k (rowN ((n + 1) % 18446744073709551616) ls ++ rest) 0 ((n + 1) % 18446744073709551616) = ps
      unfold endOf
      rw [List.getLast?_cons, List.getLast?_map]
      cases ps.getLast? <;> rfl
end Go.Proofs.Ytmepclalglmleaa.E
