import Derived.Test.YtmepclalglmleaaF13
import Derived.Test.YtmepclalglmleaaQR
namespace Go.Proofs.Ytmepclalglmleaa.Pure
open Go.RowKit Go.Proofs.Ytmepclalglmleaa.Pr Go.Proofs.Ytmepclalglmleaa.E Go.Proofs.YtmepclalglmleaaW.PrintWords Go.Proofs.YtmepclalglmleaaW.PrintLast
def bulk (ls : List (List Int)) : Nat := (ls.map fun l => 16 + l.length).sum
theorem bulk_append (a b : List (List Int)) : bulk (a ++ b) = bulk a + bulk b := by unfold bulk; rw [List.map_append, List.sum_append]
theorem w64n (n : Nat) (h : n < 4611686018427387904) : wrap64 (n : Int) = (n : Int) := by unfold wrap64; omega
theorem big_loop (l0 : List (List Int)) (hs : bulk l0 < 4611686018427387904) (hl : l0.length < 4611686018427387904) : ∀ (d p k : Nat), p + d = l0.length → wicketmanlaw13_big.l0 (k + d + 1) l0 ((bulk (l0.take p) : Nat) : Int) (p : Int) = some (decide (((bulk l0 : Nat) : Int) > 800))
  | 0, p, k, hp => by
    simp only [wicketmanlaw13_big.l0]
    rw [if_neg (by omega), List.take_of_length_le (by omega)]
  | d + 1, p, k, hp => by
    obtain ⟨K, hK⟩ : ∃ K, K = k + d + 1 := ⟨_, rfl⟩
    rw [show k + (d + 1) + 1 = K + 1 by omega]
    simp only [wicketmanlaw13_big.l0]
    have hpl : p < l0.length := by omega
    have htk : l0.take (p + 1) = l0.take p ++ [l0[p]] := List.take_succ_eq_append_getElem hpl
    have hrd : rd_L1 l0 (p : Int) = l0[p] := by simp [rd_L1, List.getD_eq_getElem?_getD, hpl]
    have hb1 : bulk (l0.take (p + 1)) = bulk (l0.take p) + (16 + l0[p].length) := by rw [htk, bulk_append]; rfl
    have hb2 : bulk l0 = bulk (l0.take (p + 1)) + bulk (l0.drop (p + 1)) := by
      rw [← bulk_append, List.take_append_drop]
    have e1 : wrap64 (16 + (l0[p].length : Int)) = ((16 + l0[p].length : Nat) : Int) := w64n (16 + l0[p].length) (by omega)
    have e2 : wrap64 (((bulk (l0.take p) : Nat) : Int) + ((16 + l0[p].length : Nat) : Int)) = ((bulk (l0.take (p + 1)) : Nat) : Int) := by rw [hb1]; exact w64n _ (by rw [← hb1]; exact Nat.lt_of_le_of_lt (Nat.le.intro hb2.symm) hs)
    rw [hK, if_pos (by omega), if_pos (by omega), hrd, e1, e2, w64_succ p (by omega)]
    exact big_loop l0 hs hl d (p + 1) k (by omega)
theorem rowN_length : ∀ (ls : List (List Int)) (n : Nat), (rowN n ls).length = bulk ls
  | [], _ => rfl
  | l :: ls, n => by
    rw [rowN, List.length_append, frameL_len, rowN_length ls]
    show _ = 16 + l.length + bulk ls
    omega
theorem row_loop (n : Nat) (hn : n < 18446744073709551616) (l1 : List (List Int)) (hs : bulk l1 ≤ 1000) (hb : ∀ l ∈ l1, ∀ x ∈ l, 0 ≤ x ∧ x ≤ 255) :
    ∀ (d p : Nat) (acc : List Int) (k : Nat), p + d = l1.length → acc.length + bulk (l1.drop p) ≤ 1000 → 20000 + d + 1 ≤ k → wicketmanlaw13_row.l0 k (n : Int) l1 acc (p : Int) = some (acc ++ rowN ((n + p) % 18446744073709551616) (l1.drop p))
  | 0, p, acc, k, hp, ha, hk => by
    obtain ⟨k, rfl⟩ : ∃ j, k = j + 1 := ⟨k - 1, by omega⟩
    simp only [wicketmanlaw13_row.l0]
    rw [if_neg (by omega), List.drop_eq_nil_of_le (by omega)]
    simp [rowN]
  | d + 1, p, acc, k, hp, ha, hk => by
    obtain ⟨k, rfl⟩ : ∃ j, k = j + 1 := ⟨k - 1, by omega⟩
    simp only [wicketmanlaw13_row.l0]
    have hpl : p < l1.length := by omega
    have hrd : rd_L1 l1 (p : Int) = l1[p] := by simp [rd_L1, List.getD_eq_getElem?_getD, hpl]
    have hdr : l1.drop p = l1[p] :: l1.drop (p + 1) := List.drop_eq_getElem_cons hpl
    have hbk : bulk (l1.drop p) = 16 + l1[p].length + bulk (l1.drop (p + 1)) := by rw [hdr]; rfl
    have hp1 : l1.length ≤ 1000 := by
      have : ∀ ls : List (List Int), ls.length ≤ bulk ls := by
        intro ls
        induction ls with
        | nil => exact Nat.le_refl _
        | cons a ls ih => show ls.length + 1 ≤ 16 + a.length + bulk ls; omega
      have := this l1
      omega
    have e1 : Aside0 (IntKind.u64.wrap (p : Int) = (p : Int)) := ⟨by rw [IntKind.wrap_u64]; omega⟩
    have e2 : Aside0 (IntKind.u64.wrap ((n : Int) + (p : Int)) = (((n + p) % 18446744073709551616 : Nat) : Int)) := ⟨by rw [IntKind.wrap_u64]; omega⟩
    have e3 : Aside0 (wrap64 ((p : Int) + 1) = ((p + 1 : Nat) : Int)) := ⟨w64_succ p (by omega)⟩
    have hfr := ref_frame ((n + p) % 18446744073709551616) (Nat.mod_lt _ (by decide)) l1[p] (hb _ (List.getElem_mem hpl)) (by omega) k (by omega)
    rw [if_pos (by omega), if_pos (by omega), hrd, e1.out, e2.out, hfr, Option.bind_some, e3.out]
    show (if acc.length + (frameL ((n + p) % 18446744073709551616) l1[p]).length < 140737488355328 then _ else _) = _
    rw [if_pos (by rw [frameL_len]; omega)]
    show wicketmanlaw13_row.l0 k (n : Int) l1 (acc ++ frameL ((n + p) % 18446744073709551616) l1[p]) ((p + 1 : Nat) : Int) = _
    rw [row_loop n hn l1 hs hb d (p + 1) _ k (by omega) (by rw [List.length_append, frameL_len]; omega) (by omega), hdr, rowN, List.append_assoc]
    congr 4
    omega
theorem nextL_short (l : List Int) (h : l.length < 16) : (nextL l).2.2 = 0 := by
  unfold nextL
  rw [if_pos h]
theorem allP_none (ls : List (List Int)) (n s k : Nat) (rest : List Int) (hn : n < 18446744073709551616) (hs : s ≠ n) (hb : ∀ l ∈ ls, l.length ≤ 65536 ∧ ∀ x ∈ l, 0 ≤ x ∧ x ≤ 255) (hr : (nextL rest).2.2 = 0) : allP (k + 1) (rowN n ls ++ rest) 0 s = [] := by
  unfold allP
  rw [if_pos]
  cases ls with
  | nil => left; simpa [rowN] using hr
  | cons l ls =>
    right
    have hl := hb l List.mem_cons_self
    rw [List.drop_zero, rowN, List.append_assoc, nextL_frame n l _ hl.1 hl.2 hn]
    show ((n : Int)) ≠ (s : Int)
    omega
theorem rowN_bytes : ∀ (ls : List (List Int)) (n : Nat), (∀ l ∈ ls, ∀ x ∈ l, 0 ≤ x ∧ x ≤ 255) → ∀ x ∈ rowN n ls, 0 ≤ x ∧ x ≤ 255
  | [], _, _, x, hx => by cases hx
  | l :: ls, n, h, x, hx => by
    rw [rowN] at hx
    rcases List.mem_append.1 hx with hx | hx
    · exact frameL_bytes n l (h l List.mem_cons_self) x hx
    · exact rowN_bytes ls _ (fun l hl => h l (List.mem_cons_of_mem _ hl)) x hx
theorem len_le_bulk : ∀ ls : List (List Int), ls.length ≤ bulk ls
  | [] => Nat.le_refl _
  | a :: ls => by
    have := len_le_bulk ls
    show ls.length + 1 ≤ 16 + a.length + bulk ls
    omega
theorem mem_le_bulk : ∀ (ls : List (List Int)) (l : List Int), l ∈ ls → l.length ≤ bulk ls
  | a :: ls, l, h => by
    rcases List.mem_cons.1 h with rfl | h
    · show l.length ≤ 16 + l.length + bulk ls
      omega
    · have := mem_le_bulk ls l h
      show l.length ≤ 16 + a.length + bulk ls
      omega
theorem CrcBack (a0 : Int) (l1 : List (List Int)) (l2 : List Int) (a3 : Int) (h0 : (Lit.int .u64 a0).wf = true) (hs : bulk l1 < 4611686018427387904) (hb1 : ∀ l ∈ l1, ∀ x ∈ l, 0 ≤ x ∧ x ≤ 255) (hb2 : ∀ x ∈ l2, 0 ≤ x ∧ x ≤ 255) (h3 : (Lit.int .u8 a3).wf = true) :
    ∃ k, wicketmanlaw13_CrcBack.f k a0 l1 l2 a3 = some true := by
  have h0' := wf_u64 h0
  have h3' := wf_u8 h3
  clear h0 h3
  have hkn : wicketmanlaw13_known.f = some true := rfl
  have hll := len_le_bulk l1
  refine ⟨40000 + l1.length + 1, ?_⟩
  have hbig : wicketmanlaw13_big.f (40000 + l1.length + 1) l1 = some (decide (((bulk l1 : Nat) : Int) > 800)) := by
    have := big_loop l1 hs (by omega) l1.length 0 40000 (by omega)
    unfold wicketmanlaw13_big.f
    exact this
  have triv : wicketmanlaw13_CrcBack.j0 (40000 + l1.length + 1) a0 l1 l2 a3 true = some true := by
    simp only [wicketmanlaw13_CrcBack.j0]
    rw [if_pos trivial, hkn]; rfl
  unfold wicketmanlaw13_CrcBack.f
  rw [hbig, Option.bind_some]
  by_cases c1 : ((bulk l1 : Nat) : Int) > 800
  · rw [decide_eq_true c1, if_pos rfl]; exact triv
  · rw [decide_eq_false c1, if_neg (by decide)]
    by_cases c2 : (l2.length : Int) > 15
    · rw [decide_eq_true c2]; exact triv
    · rw [decide_eq_false c2]
      obtain ⟨n, rfl⟩ : ∃ n : Nat, a0 = (n : Int) := ⟨a0.toNat, by omega⟩
      obtain ⟨g, rfl⟩ : ∃ g : Nat, a3 = (g : Int) := ⟨a3.toNat, by omega⟩
      have hn : n < 18446744073709551616 := by omega
      have hrow : wicketmanlaw13_row.f (40000 + l1.length) (n : Int) l1 = some (rowN n l1) := by
        have := row_loop n hn l1 (by omega) hb1 l1.length 0 [] (40000 + l1.length) (by omega) (by rw [List.drop_zero, List.length_nil]; omega) (by omega)
        unfold wicketmanlaw13_row.f
        rw [List.drop_zero, List.nil_append, Nat.add_zero, Nat.mod_eq_of_lt hn] at this
        exact this
      have hrl := rowN_length l1 n
      have hr2 : (nextL l2).2.2 = 0 := nextL_short l2 (by omega)
      have hbb : ∀ l ∈ l1, l.length ≤ 65536 ∧ ∀ x ∈ l, 0 ≤ x ∧ x ≤ 255 := fun l hl => ⟨by have := mem_le_bulk l1 l hl; omega, hb1 l hl⟩
      have hyl : (rowN n l1 ++ l2).length = bulk l1 + l2.length := by rw [List.length_append, hrl]
      have hyb : ∀ x ∈ rowN n l1 ++ l2, 0 ≤ x ∧ x ≤ 255 := by
        intro x hx
        rcases List.mem_append.1 hx with hx | hx
        · exact rowN_bytes l1 n hb1 x hx
        · exact hb2 x hx
      have hall := allP_row l1 n ((rowN n l1 ++ l2).length + 1) l2 hn (by rw [hyl]; omega) hbb hr2
      have hA : crc_All.f (rowN n l1 ++ l2) (n : Int) = some (l1, ((rowN n l1).length : Int)) := by
        unfold crc_All.f
        rw [if_pos ⟨by rw [hyl]; omega, hyb, by omega, by omega⟩, Int.toNat_natCast, hall.1, hall.2]
      have hw : IntKind.u64.wrap (IntKind.u64.wrap ((n : Int) + 1) + IntKind.u64.wrap (g : Int)) = (((n + 1 + g) % 18446744073709551616 : Nat) : Int) := by
        rw [IntKind.wrap_u64, IntKind.wrap_u64, IntKind.wrap_u64]; omega
      have hB : crc_All.f (rowN n l1 ++ l2) (((n + 1 + g) % 18446744073709551616 : Nat) : Int) = some ([], 0) := by
        unfold crc_All.f
        rw [if_pos ⟨by rw [hyl]; omega, hyb, by omega, by omega⟩, Int.toNat_natCast, allP_none l1 n _ _ l2 hn (by omega) hbb hr2]
        rfl
      have hsame : wicketmanlaw13_same.f l1 l1 = some true := by unfold wicketmanlaw13_same.f; rw [if_pos rfl]
      obtain ⟨K, hK⟩ : ∃ K, K = 40000 + l1.length := ⟨_, rfl⟩
      rw [← hK] at hrow
      show wicketmanlaw13_CrcBack.j0 (40000 + l1.length + 1) (n : Int) l1 l2 (g : Int) false = some true
      rw [← hK]
      simp only [wicketmanlaw13_CrcBack.j0]
      clear hall
      rw [if_neg (by decide), hrow, Option.bind_some, if_pos (by rw [hrl, List.length_nil]; omega), Option.bind_some, List.nil_append, if_pos (by rw [hrl]; omega), Option.bind_some, hA, Option.bind_some, hw, hB, Option.bind_some, hkn, Option.bind_some, if_pos rfl, hsame, Option.bind_some, if_pos rfl, if_pos rfl]
      rfl
end Go.Proofs.Ytmepclalglmleaa.Pure
