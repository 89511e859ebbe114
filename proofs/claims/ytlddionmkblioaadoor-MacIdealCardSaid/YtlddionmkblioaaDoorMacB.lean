/- What big says of at most twenty rows. -/
import Derived.Test.YtlddionmkblioaaDoorMacQ
import Derived.Test.YtlddionmkblioaaDoorF4
namespace Go.Proofs.YtlddionmkblioaaDoor.Pure
open Go.RowKit Go.Proofs.YtlddionmkblioaaDoorW.PrintWords Go.Proofs.YtlddionmkblioaaDoorW.PrintLast Go.Proofs.YtlddionmkblioaaDoorW.PrintMore Go.Proofs.YtlddionmkblioaaDoor.Pr Go.Proofs.YtlddionmkblioaaDoor.E
def total : List (List Int) → Nat
  | [] => 0
  | r :: l => r.length + total l
theorem total_le : ∀ (l : List (List Int)) (b : Nat), (∀ r ∈ l, r.length ≤ b) → total l ≤ l.length * b
  | [], b, _ => by simp [total]
  | r :: l, b, h => by
    have h1 := h r (List.mem_cons_self ..)
    have h2 := total_le l b (fun x hx => h x (List.mem_cons_of_mem _ hx))
    simp only [total, List.length_cons, Nat.succ_mul]
    omega
theorem total_mem : ∀ {l : List (List Int)} {r : List Int}, r ∈ l → r.length ≤ total l
  | x :: l, r, h => by
    simp only [total]
    rcases List.mem_cons.1 h with rfl | h
    · omega
    · have := total_mem h; omega
theorem total_drop (l : List (List Int)) (j : Nat) (h : j < l.length) : total (l.drop j) = (rdR l j).length + total (l.drop (j + 1)) := by
  rw [List.drop_eq_getElem_cons h]
  simp only [total, rdR, Int.toNat_natCast, List.getD_eq_getElem?_getD]
  rw [List.getElem?_eq_getElem h]
  rfl
set_option maxHeartbeats 2000000 in
theorem big_from (l : List (List Int)) (hl : l.length ≤ 20) (hT : total l ≤ 4000000000000000) : ∀ (n j k : Nat) (s : Nat), j + n = l.length → n < k → s + total (l.drop j) = total l → wicketmanlaw03_big.l0 k l (s : Int) (j : Int) = some (decide (((total l : Nat) : Int) > 400))
  | n, j, 0, s, _, hk, _ => absurd hk (Nat.not_lt_zero _)
  | 0, j, k + 1, s, hj, hk, hs => by
    have hd : l.drop j = [] := List.drop_eq_nil_of_le (by omega)
    rw [hd] at hs
    simp only [total, Nat.add_zero] at hs
    rw [wicketmanlaw03_big.l0, if_neg (by omega), hs]
  | n + 1, j, k + 1, s, hj, hk, hs => by
    have h1 := total_drop l j (by omega)
    have e1 : (rd_L1 l (j : Int)) = rdR l j := rfl
    have e2 : wrap64 ((s : Int) + ((rdR l j).length : Int)) = ((s + (rdR l j).length : Nat) : Int) := by
      unfold wrap64; omega
    have e3 : wrap64 ((j : Int) + 1) = ((j + 1 : Nat) : Int) := by
      unfold wrap64; omega
    have c1 : (j : Int) < (l.length : Int) := by omega
    have c2 : 0 ≤ (j : Int) := Int.natCast_nonneg j
    unfold wicketmanlaw03_big.l0
    rw [if_pos c1, if_pos c2, e1, e2, e3]
    exact big_from l hl hT n (j + 1) k _ (by omega) (by omega) (by omega)
theorem big_some (l : List (List Int)) (hl : l.length ≤ 20) (hB : ∀ r ∈ l, r.length ≤ 140737488351232) : wicketmanlaw03_big.f 30 l = some (decide (((total l : Nat) : Int) > 400)) := by
  have hT : total l ≤ 4000000000000000 := by
    have := total_le l 140737488351232 hB
    have := Nat.mul_le_mul_right 140737488351232 hl
    omega
  unfold wicketmanlaw03_big.f
  exact big_from l hl hT l.length 0 30 0 (by omega) (by omega) (by simp)
end Go.Proofs.YtlddionmkblioaaDoor.Pure

