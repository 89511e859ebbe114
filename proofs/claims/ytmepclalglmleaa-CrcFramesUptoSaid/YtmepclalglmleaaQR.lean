/- The document's Sum, Put, Get and Frame tell what the program's do: plain. -/
import Derived.Test.YtmepclalglmleaaQ
import Derived.Test.YtmepclalglmleaaF29
import Derived.Test.YtmepclalglmleaaF52
namespace Go.Proofs.Ytmepclalglmleaa.E
open Go.RowKit Go.Proofs.YtmepclalglmleaaW.PrintWords Go.Proofs.YtmepclalglmleaaW.PrintLast Go.Proofs.Ytmepclalglmleaa.Pr
theorem w64_succ (p : Nat) (h : p < 9223372036854775807) : wrap64 ((p : Int) + 1) = ((p + 1 : Nat) : Int) := by unfold wrap64; omega
theorem rs1 (l : List Int) (p : Nat) : ∀ (e j n k : Nat), j + e = 8 → n < 4294967296 → wicketmanref13_Sum.l1 (k + e + 1) l (n : Int) (p : Int) (j : Int) = wicketmanref13_Sum.l0 k l ((sts e n : Nat) : Int) (wrap64 ((p : Int) + 1))
  | 0, j, n, k, hj, hn => by
    obtain rfl : j = 8 := by omega
    simp only [wicketmanref13_Sum.l1]
    rw [if_neg (by decide)]
    rfl
  | e + 1, j, n, k, hj, hn => by
    obtain ⟨K, hK⟩ : ∃ K, K = k + e + 1 := ⟨_, rfl⟩
    rw [show k + (e + 1) + 1 = K + 1 by omega]
    simp only [wicketmanref13_Sum.l1]
    rw [hK]
    have e1 : Int.tdiv (n : Int) 2 % 4294967296 = ((n / 2 : Nat) : Int) := by rw [Int.tdiv_eq_ediv_of_nonneg (by omega)]; omega
    have e2 : Int.tmod (n : Int) 2 = ((n % 2 : Nat) : Int) := by rw [Int.tmod_eq_emod_of_nonneg (by omega)]; omega
    rw [if_pos (by omega), e1, e2, w64_succ j (by omega)]
    rcases Nat.mod_two_eq_zero_or_one n with h | h
    · have hst : st n = n / 2 := by unfold st; rw [h]; simp
      rw [h, if_neg (by decide), rs1 l p e (j + 1) (n / 2) k (by omega) (by omega), sts, hst]
    · have hst : st n = n / 2 ^^^ 3988292384 := by unfold st; rw [h]
      have hx := xor32 (n / 2) 3988292384 (by omega) (by decide)
      have hx' : Go.bits .xor .u32 ((n / 2 : Nat) : Int) 3988292384 = ((n / 2 ^^^ 3988292384 : Nat) : Int) := hx
      rw [h, if_pos (by decide), hx', rs1 l p e (j + 1) (n / 2 ^^^ 3988292384) k (by omega) (lt32 (by omega) (by decide)), sts, hst]
theorem rs0 (l : List Int) (hb : ∀ x ∈ l, 0 ≤ x ∧ x ≤ 255) (hl : l.length < 1000000) : ∀ (d p n k : Nat), p + d = l.length → n < 4294967296 → wicketmanref13_Sum.l0 (k + 10 * d + 1) l (n : Int) (p : Int) = some ((crun n (l.drop p) ^^^ 4294967295 : Nat) : Int)
  | 0, p, n, k, hp, hn => by
    simp only [wicketmanref13_Sum.l0]
    have hx := xor32 n 4294967295 hn (by decide)
    have hx' : Go.bits .xor .u32 (n : Int) 4294967295 = ((n ^^^ 4294967295 : Nat) : Int) := hx
    rw [if_neg (by omega), hx', List.drop_eq_nil_of_le (by omega)]
    rfl
  | d + 1, p, n, k, hp, hn => by
    obtain ⟨K, hK⟩ : ∃ K, K = (k + 10 * d + 1) + 8 + 1 := ⟨_, rfl⟩
    rw [show k + 10 * (d + 1) + 1 = K + 1 by omega]
    simp only [wicketmanref13_Sum.l0]
    rw [hK]
    have hpl : p < l.length := by omega
    have hx := hb _ (rd_mem hpl)
    obtain ⟨x, hxx⟩ : ∃ x : Nat, rd l (p : Int) = (x : Int) := ⟨(rd l (p : Int)).toNat, by omega⟩
    have hxl : x ≤ 255 := by omega
    have e1 : (x : Int) % 4294967296 = (x : Int) := by omega
    have hxr := xor32 n x hn (by omega)
    rw [if_pos (by omega), if_pos (by omega), hxx, e1, hxr]
    have := rs1 l p 8 0 (n ^^^ x) (k + 10 * d + 1) rfl (lt32 hn (by omega))
    rw [show ((0 : Nat) : Int) = 0 from rfl] at this
    rw [this, w64_succ p (by omega), rs0 l hb hl d (p + 1) (sts 8 (n ^^^ x)) k (by omega) (sts_lt 8 (lt32 hn (by omega)))]
    have hdrop : l.drop p = (x : Int) :: l.drop (p + 1) := by
      rw [List.drop_eq_getElem_cons hpl]
      congr 1
      rw [← hxx]
      simp [rd, List.getD_eq_getElem?_getD, hpl]
    rw [hdrop]
    rfl
theorem ref_sum (l : List Int) (hb : ∀ x ∈ l, 0 ≤ x ∧ x ≤ 255) (hl : l.length < 1000000) (k : Nat) (hk : 10 * l.length + 1 ≤ k) : wicketmanref13_Sum.f k l = some ((crcN l : Nat) : Int) := by
  obtain ⟨j, rfl⟩ : ∃ j, k = j + 10 * l.length + 1 := ⟨k - (10 * l.length + 1), by omega⟩
  unfold wicketmanref13_Sum.f
  have := rs0 l hb hl l.length 0 4294967295 j (by omega) (by decide)
  rw [List.drop_zero] at this
  exact this
def pf : Nat → Nat
  | 0 => 1
  | i + 1 => pf i + i + 2
theorem rp1 (n : Nat) (acc : List Int) (i : Nat) (hi : i ≤ 8) (ha : acc.length < 1000) : ∀ (e j m k : Nat), j + e = i → m < 18446744073709551616 →
    wicketmanref01_Put.l1 (k + e + 1) (n : Int) acc (i : Int) (m : Int) (j : Int) = wicketmanref01_Put.l0 k (n : Int) (acc ++ [((m / 256 ^ e % 256 : Nat) : Int)]) (wrap64 ((i : Int) - 1))
  | 0, j, m, k, hj, hm => by
    simp only [wicketmanref01_Put.l1]
    have e1 : Int.tmod (m : Int) 256 % 256 = ((m / 256 ^ 0 % 256 : Nat) : Int) := by rw [Int.tmod_eq_emod_of_nonneg (by omega)]; simp
    rw [if_neg (by omega), if_pos (by omega), e1]
  | e + 1, j, m, k, hj, hm => by
    obtain ⟨K, hK⟩ : ∃ K, K = k + e + 1 := ⟨_, rfl⟩
    rw [show k + (e + 1) + 1 = K + 1 by omega]
    simp only [wicketmanref01_Put.l1]
    have e1 : Int.tdiv (m : Int) 256 = ((m / 256 : Nat) : Int) := by rw [Int.tdiv_eq_ediv_of_nonneg (by omega)]; omega
    have e2 : IntKind.u64.wrap ((m / 256 : Nat) : Int) = ((m / 256 : Nat) : Int) := by rw [IntKind.wrap_u64]; omega
    rw [hK, if_pos (by omega), e1, e2, w64_succ j (by omega), rp1 n acc i hi ha e (j + 1) (m / 256) k (by omega) (by omega), Nat.div_div_eq_div_mul, Nat.pow_succ, Nat.mul_comm 256]
theorem rp0 (n : Nat) (hn : n < 18446744073709551616) : ∀ (i : Nat) (acc : List Int) (k : Nat), i ≤ 8 → acc.length + i < 1000 → wicketmanref01_Put.l0 (k + pf i) (n : Int) acc ((i : Int) - 1) = some (acc ++ beN n i)
  | 0, acc, k, _, _ => by
    show wicketmanref01_Put.l0 (k + 1) (n : Int) acc (((0 : Nat) : Int) - 1) = _
    simp only [wicketmanref01_Put.l0]
    rw [if_neg (by decide)]
    simp [beN]
  | i + 1, acc, k, hi, ha => by
    obtain ⟨K, hK⟩ : ∃ K, K = (k + pf i) + i + 1 := ⟨_, rfl⟩
    rw [show k + pf (i + 1) = K + 1 by simp only [pf]; omega]
    simp only [wicketmanref01_Put.l0]
    have e1 : ((i + 1 : Nat) : Int) - 1 = (i : Int) := by omega
    have e2 : wrap64 ((i : Int) - 1) = (i : Int) - 1 := by unfold wrap64; omega
    have h1 := rp1 n acc i (by omega) (by omega) i 0 n (k + pf i) (by omega) hn
    rw [e1, if_pos (by omega), hK]
    rw [show ((0 : Nat) : Int) = 0 from rfl] at h1
    rw [h1, e2, rp0 n hn i _ k (by omega) (by rw [List.length_append, List.length_singleton]; omega), List.append_assoc]
    rfl
theorem ref_put4 (n : Nat) (hn : n < 18446744073709551616) (k : Nat) (hk : 50 ≤ k) : wicketmanref01_Put.f k (n : Int) 4 = some (beN n 4) := by
  obtain ⟨j, rfl⟩ : ∃ j, k = j + pf 4 := ⟨k - pf 4, by have : pf 4 = 15 := rfl; omega⟩
  have := rp0 n hn 4 [] j (by decide) (by decide)
  unfold wicketmanref01_Put.f
  exact this
theorem ref_put8 (n : Nat) (hn : n < 18446744073709551616) (k : Nat) (hk : 50 ≤ k) : wicketmanref01_Put.f k (n : Int) 8 = some (beN n 8) := by
  obtain ⟨j, rfl⟩ : ∃ j, k = j + pf 8 := ⟨k - pf 8, by have : pf 8 = 45 := rfl; omega⟩
  have := rp0 n hn 8 [] j (by decide) (by decide)
  unfold wicketmanref01_Put.f
  exact this
theorem ref_frame (n : Nat) (hn : n < 18446744073709551616) (l : List Int) (hb : ∀ x ∈ l, 0 ≤ x ∧ x ≤ 255) (hl : l.length ≤ 65536) (k : Nat) (hk : 10 * l.length + 200 ≤ k) : wicketmanref13_Frame.f k (n : Int) l = some (frameL n l, 0) := by
  unfold wicketmanref13_Frame.f
  have e1 : IntKind.u64.wrap (l.length : Int) = (l.length : Int) := by rw [IntKind.wrap_u64]; omega
  have h4 : ∀ m, (beN m 4).length = 4 := fun m => beN_length m 4
  have h8 : ∀ m, (beN m 8).length = 8 := fun m => beN_length m 8
  have hF : beN l.length 4 ++ beN n 8 = frontL n l := rfl
  have hfl := frontL_length n l
  have hall : ∀ x ∈ frontL n l ++ l, 0 ≤ x ∧ x ≤ 255 := by
    intro x hx
    rcases List.mem_append.1 hx with hx | hx
    · exact frontL_bytes n l x hx
    · exact hb x hx
  have hC := crcN_lt hall
  have hlen : (frontL n l ++ l).length = l.length + 12 := by rw [List.length_append, hfl]; omega
  have e2 : IntKind.u64.wrap ((crcN (frontL n l ++ l) : Nat) : Int) = ((crcN (frontL n l ++ l) : Nat) : Int) := by rw [IntKind.wrap_u64]; omega
  rw [if_neg (by omega), e1, ref_put4 l.length (by omega) k (by omega), Option.bind_some, ref_put8 n hn k (by omega), Option.bind_some, h4, h8, if_pos (by decide), Option.bind_some, hF, hfl]
  rw [if_pos (by decide), Option.bind_some, List.nil_append, hfl, if_pos (by omega), ref_sum _ hall (by omega) k (by omega), Option.bind_some, e2, ref_put4 _ (by omega) k (by omega), Option.bind_some, h4, if_pos (by decide), Option.bind_some, if_pos (by rw [List.length_append, hfl, h4]; omega)]
  rfl
end Go.Proofs.Ytmepclalglmleaa.E
