/- Merged by wip/merge.py: RowV, RefW, RefB, RefS, Ref3. -/
import Derived.Test.YtlddionmkblioaaDoorF
import Derived.Test.YtlddionmkblioaaDoorMacM
import Derived.Test.YtlddionmkblioaaDoorF24
import Derived.Test.YtlddionmkblioaaDoorF25
import Derived.Test.YtlddionmkblioaaDoorF16
import Derived.Deep.RegionWith
import Derived.Deep.DrawnRows
import Derived.IntWalk
/- A row of bytes as cells. -/
namespace Go.Proofs.YtlddionmkblioaaDoor.E
open Go.RowKit Go.Proofs.YtlddionmkblioaaDoorW.PrintWords Go.Proofs.YtlddionmkblioaaDoorW.PrintLast Go.Proofs.YtlddionmkblioaaDoorW.PrintMore Go.Proofs.YtlddionmkblioaaDoor.Pr
def rowV (o : List Int) : Array Value := (o.map (Value.int .u8)).toArray
theorem rowV_set (o : List Int) (i : Nat) (x : Int) : (rowV o).setIfInBounds i (.int .u8 x) = rowV (o.set i x) := by
  simp [rowV, List.map_set]
end Go.Proofs.YtlddionmkblioaaDoor.E

/- The document's words, roots, Get, Put, Pad tell what the program's do: plain. -/
namespace Go.Proofs.YtlddionmkblioaaDoor.E
open Go.RowKit Go.Proofs.YtlddionmkblioaaDoorW.PrintWords Go.Proofs.YtlddionmkblioaaDoorW.PrintLast Go.Proofs.YtlddionmkblioaaDoorW.PrintMore Go.Proofs.YtlddionmkblioaaDoor.Pr
set_option linter.unusedVariables false
set_option linter.unusedSimpArgs false
theorem shr_u32 (x n : Nat) (h : n ≤ 32) : shr .u32 (x : Int) (n : Int) = ((x >>> n : Nat) : Int) := by
  unfold shr
  have : min ((n : Int)).toNat IntKind.u32.bits = n := by rw [Int.toNat_natCast]; exact Nat.min_eq_left h
  rw [this, Nat.shiftRight_eq_div_pow]; simp
theorem shl_u32 (x n : Nat) (h : n ≤ 32) : shl .u32 (x : Int) (n : Int) = (((x <<< n) % 4294967296 : Nat) : Int) := by
  unfold shl
  have : min ((n : Int)).toNat IntKind.u32.bits = n := by rw [Int.toNat_natCast]; exact Nat.min_eq_left h
  rw [this, IntKind.wrap_u32, Nat.shiftLeft_eq]; simp
theorem ref_rot (x n : Nat) (hx : x < 4294967296) (hn : n ≤ 32) : wicketmanref02_rot.f (x : Int) (n : Int) = some ((rotr x n : Nat) : Int) := by
  unfold wicketmanref02_rot.f
  have e1 : IntKind.u64.wrap (32 - (n : Int)) = ((32 - n : Nat) : Int) := by rw [IntKind.wrap_u64]; omega
  rw [e1, if_pos (by omega), if_pos (by omega), shr_u32 x n hn, shl_u32 x (32 - n) (by omega), or32 _ _ (shr_lt n hx) (Nat.mod_lt _ (by decide)), Nat.or_comm]
  rfl
theorem ref_get (l : List Int) (hl : l.length ≤ 8) (hb : ∀ x ∈ l, 0 ≤ x ∧ x ≤ 255) : ∀ (d p n k : Nat), p + d = l.length → n + 1 ≤ 256 ^ p → wicketmanref01_Get.l0 (k + d + 1) l (n : Int) (p : Int) = some (((l.drop p).foldl (fun n c => 256 * n + c.toNat) n : Nat) : Int)
  | 0, p, n, k, hp, hn => by
    simp only [wicketmanref01_Get.l0]
    rw [if_neg (by omega), List.drop_eq_nil_of_le (by omega)]
    rfl
  | d + 1, p, n, k, hp, hn => by
    obtain ⟨K, hK⟩ : ∃ K, K = k + d + 1 := ⟨_, rfl⟩
    rw [show k + (d + 1) + 1 = K + 1 by omega]
    simp only [wicketmanref01_Get.l0]
    rw [hK]
    have hpl : p < l.length := by omega
    have hx := hb _ (rd_mem hpl)
    obtain ⟨x, hxx⟩ : ∃ x : Nat, rd l (p : Int) = (x : Int) := ⟨(rd l (p : Int)).toNat, by omega⟩
    have hxl : x ≤ 255 := by omega
    have h8 : 256 ^ (p + 1) ≤ 256 ^ 8 := Nat.pow_le_pow_right (by omega) (by omega)
    have hs : 256 ^ (p + 1) = 256 ^ p * 256 := Nat.pow_succ _ _
    have hn2 : 256 * n + x + 1 ≤ 256 ^ (p + 1) := by omega
    have e1 : IntKind.u64.wrap (256 * (n : Int)) = ((256 * n : Nat) : Int) := by rw [IntKind.wrap_u64]; omega
    have e2 : IntKind.u64.wrap ((x : Nat) : Int) = ((x : Nat) : Int) := by rw [IntKind.wrap_u64]; omega
    have e3 : IntKind.u64.wrap (((256 * n : Nat) : Int) + (x : Int)) = ((256 * n + x : Nat) : Int) := by rw [IntKind.wrap_u64]; omega
    rw [if_pos (by omega), if_pos (by omega), hxx, e1, e2, e3, w64_succ p (by omega), ref_get l hl hb d (p + 1) (256 * n + x) k (by omega) hn2]
    have hdrop : l.drop p = (x : Int) :: l.drop (p + 1) := by
      rw [List.drop_eq_getElem_cons hpl]
      congr 1
      rw [← hxx]
      simp [rd, List.getD_eq_getElem?_getD, hpl]
    rw [hdrop, List.foldl_cons, Int.toNat_natCast]
theorem ref_get4 (l : List Int) (hl : l.length ≤ 8) (hb : ∀ x ∈ l, 0 ≤ x ∧ x ≤ 255) (k : Nat) (hk : 9 ≤ k) : wicketmanref01_Get.f k l = some ((valN l : Nat) : Int) := by
  unfold wicketmanref01_Get.f
  have e1 : mx 0 (wrap64 ((l.length : Int) - 8)) = ((0 : Nat) : Int) := by
    have : wrap64 ((l.length : Int) - 8) = (l.length : Int) - 8 := by unfold wrap64; omega
    rw [this]; unfold mx; split <;> omega
  have := ref_get l hl hb l.length 0 0 (k - l.length - 1) (by omega) (by decide)
  rw [show k - l.length - 1 + l.length + 1 = k by omega, List.drop_zero] at this
  rw [e1]
  exact this
def intsN (l : List Nat) : List Int := l.map fun (n : Nat) => (n : Int)
theorem intsN_len (l : List Nat) : (intsN l).length = l.length := List.length_map ..
theorem rd_ints (l : List Nat) (j : Nat) : rd (intsN l) (j : Int) = ((l.getD j 0 : Nat) : Int) := by
  simp only [rd, intsN, Int.toNat_natCast, List.getD_eq_getElem?_getD, List.getElem?_map]
  cases l[j]? <;> rfl
theorem take_getD {l : List Nat} {t j : Nat} (h : j < t) : (l.take t).getD j 0 = l.getD j 0 := by
  simp [List.getD_eq_getElem?_getD, List.getElem?_take, h]
theorem ints_take_succ {W : List Nat} {t : Nat} (h : t < W.length) : intsN (W.take t) ++ [((W.getD t 0 : Nat) : Int)] = intsN (W.take (t + 1)) := by
  rw [List.take_succ_eq_append_getElem h, intsN, intsN, List.map_append]
  simp only [List.map_cons, List.map_nil, List.getD_eq_getElem?_getD, List.getElem?_eq_getElem h, Option.getD_some]
theorem ref_words1 (W : List Nat) (hl : W.length = 64) (hlt : ∀ t, W.getD t 0 < 4294967296) (hW : ∀ t, 16 ≤ t → t < 64 → W.getD t 0 = (lS1 (W.getD (t - 2) 0) + (W.getD (t - 7) 0 + W.getD (t - 16) 0 + lS0 (W.getD (t - 15) 0))) % 4294967296) :
    ∀ (d t k : Nat), t + d = 64 → 16 ≤ t → wicketmanref02_words.l1 (k + d + 1) (intsN (W.take t)) (t : Int) = some (intsN W)
  | 0, t, k, ht, h16 => by
    obtain rfl : t = 64 := by omega
    simp only [wicketmanref02_words.l1]
    rw [if_neg (by omega), List.take_of_length_le (by omega)]
  | d + 1, t, k, ht, h16 => by
    obtain ⟨K, hK⟩ : ∃ K, K = k + d + 1 := ⟨_, rfl⟩
    rw [show k + (d + 1) + 1 = K + 1 by omega]
    simp only [wicketmanref02_words.l1]
    rw [hK]
    have e15 : wrap64 ((t : Int) - 15) = ((t - 15 : Nat) : Int) := by unfold wrap64; omega
    have e2 : wrap64 ((t : Int) - 2) = ((t - 2 : Nat) : Int) := by unfold wrap64; omega
    have e7 : wrap64 ((t : Int) - 7) = ((t - 7 : Nat) : Int) := by unfold wrap64; omega
    have e16 : wrap64 ((t : Int) - 16) = ((t - 16 : Nat) : Int) := by unfold wrap64; omega
    have hlen : (intsN (W.take t)).length = t := by rw [intsN_len, List.length_take]; omega
    rw [e15, e2, e7, e16, hlen, rd_ints, rd_ints, rd_ints, rd_ints, take_getD (show t - 15 < t by omega), take_getD (show t - 2 < t by omega), take_getD (show t - 7 < t by omega), take_getD (show t - 16 < t by omega)]
    have b15 := hlt (t - 15)
    have b2 := hlt (t - 2)
    have hw := hW t h16 (by omega)
    have hsucc := ints_take_succ (show t < W.length by omega)
    have ih := ref_words1 W hl hlt hW d (t + 1) k (by omega) (by omega)
    generalize W.getD (t - 15) 0 = x15 at *
    generalize W.getD (t - 2) 0 = x2 at *
    generalize W.getD (t - 7) 0 = x7 at *
    generalize W.getD (t - 16) 0 = x16 at *
    have r7 : wicketmanref02_rot.f (x15 : Int) 7 = some ((rotr x15 7 : Nat) : Int) := ref_rot x15 7 b15 (by decide)
    have r18 : wicketmanref02_rot.f (x15 : Int) 18 = some ((rotr x15 18 : Nat) : Int) := ref_rot x15 18 b15 (by decide)
    have r17 : wicketmanref02_rot.f (x2 : Int) 17 = some ((rotr x2 17 : Nat) : Int) := ref_rot x2 17 b2 (by decide)
    have r19 : wicketmanref02_rot.f (x2 : Int) 19 = some ((rotr x2 19 : Nat) : Int) := ref_rot x2 19 b2 (by decide)
    rw [if_pos (by omega), if_pos (by omega), if_pos (by omega), r7, Option.bind_some, r18, Option.bind_some, if_pos (by omega), if_pos (by omega), r17, Option.bind_some, r19, Option.bind_some, if_pos (by omega), if_pos (by omega), if_pos (by omega), if_pos (by omega), if_pos (by omega)]
    have q7 := rotr_lt 7 b15
    have q18 := rotr_lt 18 b15
    have q17 := rotr_lt 17 b2
    have q19 := rotr_lt 19 b2
    have v1 : bits .xor .u32 (bits .xor .u32 ((rotr x2 17 : Nat) : Int) ((rotr x2 19 : Nat) : Int)) ((x2 : Int) / 1024) = ((lS1 x2 : Nat) : Int) := by
      rw [xor32 _ _ q17 q19, shr_i10 x2, xor32 _ _ (xor_lt q17 q19) (shr_lt 10 b2)]; rfl
    have v0 : bits .xor .u32 (bits .xor .u32 ((rotr x15 7 : Nat) : Int) ((rotr x15 18 : Nat) : Int)) ((x15 : Int) / 8) = ((lS0 x15 : Nat) : Int) := by
      rw [xor32 _ _ q7 q18, shr_i3 x15, xor32 _ _ (xor_lt q7 q18) (shr_lt 3 b15)]; rfl
    rw [v1, v0]
    have e : (((((lS1 x2 : Nat) : Int) + (x7 : Int)) % 4294967296 + ((lS0 x15 : Nat) : Int)) % 4294967296 + (x16 : Int)) % 4294967296 = ((W.getD t 0 : Nat) : Int) := by rw [hw]; omega
    rw [e, hsucc, w64_succ t (by omega)]
    exact ih
theorem ref_words0 (b : List Int) (hb : ∀ x ∈ b, 0 ≤ x ∧ x ≤ 255) (hbl : b.length = 64) (W : List Nat) (hl : W.length = 64) (h1 : ∀ k, 49 ≤ k → wicketmanref02_words.l1 k (intsN (W.take 16)) 16 = some (intsN W)) (hf : ∀ t, t < 16 → W.getD t 0 = valN ((b.drop (4 * t)).take 4)) :
    ∀ (d i k : Nat), i + d = 16 → wicketmanref02_words.l0 (k + d + 60) b (intsN (W.take i)) ((4 * i : Nat) : Int) = some (intsN W)
  | 0, i, k, hi => by
    obtain rfl : i = 16 := by omega
    obtain ⟨K, hK⟩ : ∃ K, K = k + 59 := ⟨_, rfl⟩
    rw [show k + 0 + 60 = K + 1 by omega]
    simp only [wicketmanref02_words.l0]
    rw [if_neg (by omega), h1 _ (by omega)]
  | d + 1, i, k, hi => by
    obtain ⟨K, hK⟩ : ∃ K, K = k + d + 60 := ⟨_, rfl⟩
    rw [show k + (d + 1) + 60 = K + 1 by omega]
    simp only [wicketmanref02_words.l0]
    have e4 : wrap64 (((4 * i : Nat) : Int) + 4) = ((4 * (i + 1) : Nat) : Int) := by unfold wrap64; omega
    have ed : (b.take (4 * (i + 1))).drop (4 * i) = (b.drop (4 * i)).take 4 := by rw [List.drop_take, show 4 * (i + 1) - 4 * i = 4 by omega]
    have hg := ref_get4 ((b.drop (4 * i)).take 4) (by rw [List.length_take]; omega) (fun x hx => hb x (List.mem_of_mem_drop (List.mem_of_mem_take hx))) K (by omega)
    have hv := hf i (by omega)
    have hlt : valN ((b.drop (4 * i)).take 4) < 4294967296 := by
      have := valN_lt ((b.drop (4 * i)).take 4) (fun x hx => hb x (List.mem_of_mem_drop (List.mem_of_mem_take hx)))
      have h2 : ((b.drop (4 * i)).take 4).length ≤ 4 := by rw [List.length_take]; omega
      have h3 : 256 ^ ((b.drop (4 * i)).take 4).length ≤ 256 ^ 4 := Nat.pow_le_pow_right (by omega) h2
      omega
    have hlen : (intsN (W.take i)).length = i := by rw [intsN_len, List.length_take]; omega
    have hsucc := ints_take_succ (show i < W.length by omega)
    rw [hv] at hsucc
    have em : ((valN ((b.drop (4 * i)).take 4) : Nat) : Int) % 4294967296 = ((valN ((b.drop (4 * i)).take 4) : Nat) : Int) := by omega
    rw [if_pos (by omega), if_pos (by omega), e4, if_pos (by omega), if_pos (by omega), Int.toNat_natCast, Int.toNat_natCast, ed, hg, Option.bind_some, hlen, if_pos (by omega), em, hsucc, hK]
    exact ref_words0 b hb hbl W hl h1 hf d (i + 1) k (by omega)
theorem ref_words (b : List Int) (hb : ∀ x ∈ b, 0 ≤ x ∧ x ≤ 255) (hbl : b.length = 64) : wicketmanref02_words.f 100 b = some (intsN (wordsN b)) := by
  unfold wicketmanref02_words.f
  have hl := wordsN_len b
  have h1 : ∀ k, 49 ≤ k → wicketmanref02_words.l1 k (intsN ((wordsN b).take 16)) 16 = some (intsN (wordsN b)) := fun k hk => by
    have := ref_words1 (wordsN b) hl (wordsN_lt b hb) (wordsN_at b) 48 16 (k - 49) (by decide) (by decide)
    rwa [show k - 49 + 48 + 1 = k by omega] at this
  exact ref_words0 b hb hbl (wordsN b) hl h1 (wordsN_first b) 16 0 24 (by decide)
theorem ref_roots : wicketmanref02_roots.f = some (intsN rootsN) := by kernel_rfl
theorem chX (e f g : Nat) (he : e < 4294967296) : (e &&& f) ^^^ ((4294967295 ^^^ e) &&& g) = chN e f g := by
  unfold chN
  apply Nat.eq_of_testBit_eq
  intro i
  simp only [Nat.testBit_xor, Nat.testBit_and, Nat.testBit_or]
  have hm : (4294967295 : Nat).testBit i = decide (i < 32) := Nat.testBit_two_pow_sub_one 32 i
  rw [hm]
  by_cases h : i < 32
  · simp only [h, decide_true]
    cases e.testBit i <;> cases f.testBit i <;> cases g.testBit i <;> rfl
  · have he2 : e.testBit i = false := Nat.testBit_lt_two_pow (Nat.lt_of_lt_of_le he (Nat.pow_le_pow_right (n := 2) (by decide) (show 32 ≤ i by omega)))
    rw [he2]
    simp [h]
theorem majX (a b c : Nat) : (a &&& b) ^^^ (a &&& c) ^^^ (b &&& c) = majN a b c := by
  unfold majN
  apply Nat.eq_of_testBit_eq
  intro i
  simp only [Nat.testBit_xor, Nat.testBit_and, Nat.testBit_or]
  cases a.testBit i <;> cases b.testBit i <;> cases c.testBit i <;> rfl
def pf : Nat → Nat
  | 0 => 1
  | i + 1 => pf i + i + 2
theorem rp1 (n : Nat) (acc : List Int) (i : Nat) (hi : i ≤ 8) (ha : acc.length < 1000) : ∀ (e j m k : Nat), j + e = i → m < 18446744073709551616 →
    wicketmanref01_Put.l1 (k + e + 1) (n : Int) acc (i : Int) (m : Int) (j : Int) = wicketmanref01_Put.l0 k (n : Int) (acc ++ [((m / 256 ^ e % 256 : Nat) : Int)]) (wrap64 ((i : Int) - 1))
  | 0, j, m, k, hj, hm => by
    simp only [wicketmanref01_Put.l1]
    have e1 : Int.tmod (m : Int) 256 % 256 = ((m / 256 ^ 0 % 256 : Nat) : Int) := by rw [Int.tmod_eq_emod_of_nonneg (by omega)]; simp
    rw [if_neg (by omega), if_pos (by omega), e1]
  | e + 1, j, m, k, hj, hm => by
    obtain ⟨K, hK⟩ : ∃ K, K = k + e + 1 := ⟨_, rfl⟩
    rw [show k + (e + 1) + 1 = K + 1 by omega]
    simp only [wicketmanref01_Put.l1]
    have e1 : Int.tdiv (m : Int) 256 = ((m / 256 : Nat) : Int) := by rw [Int.tdiv_eq_ediv_of_nonneg (by omega)]; omega
    have e2 : IntKind.u64.wrap ((m / 256 : Nat) : Int) = ((m / 256 : Nat) : Int) := by rw [IntKind.wrap_u64]; omega
    rw [hK, if_pos (by omega), e1, e2, w64_succ j (by omega), rp1 n acc i hi ha e (j + 1) (m / 256) k (by omega) (by omega), Nat.div_div_eq_div_mul, Nat.pow_succ, Nat.mul_comm 256]
theorem rp0 (n : Nat) (hn : n < 18446744073709551616) : ∀ (i : Nat) (acc : List Int) (k : Nat), i ≤ 8 → acc.length + i < 1000 → wicketmanref01_Put.l0 (k + pf i) (n : Int) acc ((i : Int) - 1) = some (acc ++ beN n i)
  | 0, acc, k, _, _ => by
    show wicketmanref01_Put.l0 (k + 1) (n : Int) acc (((0 : Nat) : Int) - 1) = _
    simp only [wicketmanref01_Put.l0]
    rw [if_neg (by decide)]
    simp [beN]
  | i + 1, acc, k, hi, ha => by
    obtain ⟨K, hK⟩ : ∃ K, K = (k + pf i) + i + 1 := ⟨_, rfl⟩
    rw [show k + pf (i + 1) = K + 1 by simp only [pf]; omega]
    simp only [wicketmanref01_Put.l0]
    have e1 : ((i + 1 : Nat) : Int) - 1 = (i : Int) := by omega
    have e2 : wrap64 ((i : Int) - 1) = (i : Int) - 1 := by unfold wrap64; omega
    have h1 := rp1 n acc i (by omega) (by omega) i 0 n (k + pf i) (by omega) hn
    rw [e1, if_pos (by omega), hK]
    rw [show ((0 : Nat) : Int) = 0 from rfl] at h1
    rw [h1, e2, rp0 n hn i _ k (by omega) (by rw [List.length_append, List.length_singleton]; omega), List.append_assoc]
    rfl
theorem ref_put4 (n : Nat) (hn : n < 18446744073709551616) (k : Nat) (hk : 50 ≤ k) : wicketmanref01_Put.f k (n : Int) 4 = some (beN n 4) := by
  obtain ⟨j, rfl⟩ : ∃ j, k = j + pf 4 := ⟨k - pf 4, by have : pf 4 = 15 := rfl; omega⟩
  have := rp0 n hn 4 [] j (by decide) (by decide)
  unfold wicketmanref01_Put.f
  exact this
theorem ref_put8 (n : Nat) (hn : n < 18446744073709551616) (k : Nat) (hk : 50 ≤ k) : wicketmanref01_Put.f k (n : Int) 8 = some (beN n 8) := by
  obtain ⟨j, rfl⟩ : ∃ j, k = j + pf 8 := ⟨k - pf 8, by have : pf 8 = 45 := rfl; omega⟩
  have := rp0 n hn 8 [] j (by decide) (by decide)
  unfold wicketmanref01_Put.f
  exact this
theorem ref_pad0 (n : Nat) (hn : n < 18446744073709551616) : ∀ (d z k : Nat), z + d = (119 - n % 64) % 64 → wicketmanref02_Pad.l0 (k + d + 51) (n : Int) (128 :: List.replicate z 0) = some (128 :: (List.replicate ((119 - n % 64) % 64) 0 ++ beN (8 * n) 8))
  | 0, z, k, hz => by
    obtain ⟨K, hK⟩ : ∃ K, K = k + 50 := ⟨_, rfl⟩
    rw [show k + 0 + 51 = K + 1 by omega]
    simp only [wicketmanref02_Pad.l0]
    have hlen : (128 :: List.replicate z (0 : Int)).length = z + 1 := by simp
    have e1 : Int.tmod (IntKind.u64.wrap ((IntKind.u64.wrap ((Int.tmod (n : Int) 64) + (IntKind.u64.wrap (((z + 1 : Nat) : Int))))) + 8)) 64 = 0 := by
      rw [Int.tmod_eq_emod_of_nonneg (a := (n : Int)) (by omega), IntKind.wrap_u64, IntKind.wrap_u64, IntKind.wrap_u64, Int.tmod_eq_emod_of_nonneg (by omega)]; omega
    have e2 : IntKind.u64.wrap (8 * (n : Int)) = (((8 * n) % 18446744073709551616 : Nat) : Int) := by rw [IntKind.wrap_u64]; omega
    have e3 : beN ((8 * n) % 18446744073709551616) 8 = beN (8 * n) 8 := beN_mod (8 * n) 8 8 (Nat.le_refl _)
    rw [hlen, if_pos e1, e2, ref_put8 _ (Nat.mod_lt _ (by decide)) K (by omega), Option.bind_some, beN_length, if_pos (by omega), e3]
    obtain rfl : z = (119 - n % 64) % 64 := by omega
    rfl
  | d + 1, z, k, hz => by
    obtain ⟨K, hK⟩ : ∃ K, K = k + d + 51 := ⟨_, rfl⟩
    rw [show k + (d + 1) + 51 = K + 1 by omega]
    simp only [wicketmanref02_Pad.l0]
    have hlen : (128 :: List.replicate z (0 : Int)).length = z + 1 := by simp
    have e1 : ¬ Int.tmod (IntKind.u64.wrap ((IntKind.u64.wrap ((Int.tmod (n : Int) 64) + (IntKind.u64.wrap (((z + 1 : Nat) : Int))))) + 8)) 64 = 0 := by
      rw [Int.tmod_eq_emod_of_nonneg (a := (n : Int)) (by omega), IntKind.wrap_u64, IntKind.wrap_u64, IntKind.wrap_u64, Int.tmod_eq_emod_of_nonneg (by omega)]; omega
    have e2 : (128 :: List.replicate z (0 : Int)) ++ [0] = 128 :: List.replicate (z + 1) 0 := by rw [List.cons_append, ← List.replicate_succ']
    rw [hlen, if_neg e1, if_pos (by omega), e2, hK]
    exact ref_pad0 n hn d (z + 1) k (by omega)
theorem ref_pad (n : Nat) (hn : n < 18446744073709551616) (k : Nat) (hk : 120 ≤ k) : wicketmanref02_Pad.f k (n : Int) = some (padL n) := by
  unfold wicketmanref02_Pad.f
  have := ref_pad0 n hn ((119 - n % 64) % 64) 0 (k - 51 - (119 - n % 64) % 64) (by omega)
  rw [show k - 51 - (119 - n % 64) % 64 + (119 - n % 64) % 64 + 51 = k by omega] at this
  exact this
end Go.Proofs.YtlddionmkblioaaDoor.E

/- The document's Block by hand. -/
namespace Go.Proofs.YtlddionmkblioaaDoor.E
open Go.RowKit Go.Proofs.YtlddionmkblioaaDoorW.PrintWords Go.Proofs.YtlddionmkblioaaDoorW.PrintLast Go.Proofs.YtlddionmkblioaaDoorW.PrintMore Go.Proofs.YtlddionmkblioaaDoor.Pr
set_option linter.unusedVariables false
set_option linter.unusedSimpArgs false
theorem rot_ref (x n : Nat) (i : Int) (hi : (n : Int) = i) (hx : x < 4294967296) (hn : n ≤ 32) (m : Nat) (w : World) :
    Calls Tryd.prog 26 #[.int .u32 (x : Int), .int .u64 i] (w.drewN m) fun e w' => e = .returned (.int .u32 ((rotr x n : Nat) : Int)) ∧ ∃ j, w' = w.drewN j := by
  subst hi
  exact Calls.quiet_of ((wicketmanref02_rot.calls (x : Int) (n : Int) _ (w.drewN m) (ref_rot x n hx hn)).mono fun _ _ ⟨he, hd⟩ => ⟨he, hd.out⟩)
theorem rot_ref2 {m' : Nat} {w : World} {f : FuncId} {args : Array Value} {v : Value} (h : ∀ (m : Nat) (w : World), Calls Tryd.prog f args (w.drewN m) fun e w' => e = .returned v ∧ ∃ j, w' = w.drewN j) {m : Nat} : Calls Tryd.prog f args (w.drewN (m + m')) fun e w' => e = .returned v ∧ ∃ j, w' = w.drewN (m + j) := by
  rw [← World.drewN_drewN]
  refine (h m' (w.drewN m)).mono ?_
  rintro e w' ⟨he, j, hj⟩
  exact ⟨he, j, by rw [hj, World.drewN_drewN]⟩
theorem chX_int (e f g : Nat) (he : e < 4294967296) (hf : f < 4294967296) (hg : g < 4294967296) : bits .xor .u32 (bits .and .u32 (e : Int) (f : Int)) (bits .and .u32 (bits .xor .u32 IntKind.u32.max (e : Int)) (g : Int)) = ((chN e f g : Nat) : Int) := by
  have h1 : 4294967295 ^^^ e < 4294967296 := xor_lt (by decide) he
  rw [not32 e he, and32 _ _ he hf, and32 _ _ h1 hg, xor32 _ _ (and_lt he) (and_lt h1), chX e f g he]
theorem majX_int (a b c : Nat) (ha : a < 4294967296) (hb : b < 4294967296) (hc : c < 4294967296) : bits .xor .u32 (bits .xor .u32 (bits .and .u32 (a : Int) (b : Int)) (bits .and .u32 (a : Int) (c : Int))) (bits .and .u32 (b : Int) (c : Int)) = ((majN a b c : Nat) : Int) := by
  rw [and32 _ _ ha hb, and32 _ _ ha hc, and32 _ _ hb hc, xor32 _ _ (and_lt ha) (and_lt ha), xor32 _ _ (xor_lt (and_lt ha) (and_lt ha)) (and_lt hb), majX]
set_option maxRecDepth 100000 in
set_option maxHeartbeats 8000000 in
theorem rblock_any (s : H8) (hs : s.ok) (A0 : Option Addr) (c0 : Nat) (l0 : List Int) (w : World) (hr0 : Kd.C (Kd.int .u8) w A0 64 l0) (hc0 : 64 ≤ c0) (hall : ∀ x ∈ l0, 0 ≤ x ∧ x ≤ 255) :
    Calls Tryd.prog 17 #[.agg s.vals.toArray, .slice A0 64 c0] w fun e w' => e = .returned (.agg (blockN s l0).vals.toArray) ∧ Below w.heap.size w w' := by
  have hl0 : l0.length = 64 := hr0.1
  have hWl := wordsN_len l0
  have hW3 := wordsN_lt l0 hall
  have hwd := fun (W : World) (hW : Below w.heap.size w W) => wicketmanref02_words.calls 100 A0 c0 l0 (intsN (wordsN l0)) W (by rw [hl0]; exact Kd.C_below hr0 hW) (by omega) (ref_words l0 hall hl0)
  have hrt := fun (W : World) => wicketmanref02_roots.calls (intsN rootsN) W ref_roots
  rw [hl0] at hwd
  have hbl : blockN s l0 = addN (stN (wordsN l0) s 64) s := rfl
  obtain ⟨W, hW⟩ : ∃ W, W = wordsN l0 := ⟨_, rfl⟩
  rw [← hW] at hWl hW3 hbl hwd
  obtain ⟨KK, hKK⟩ : ∃ K, K = rootsN := ⟨_, rfl⟩
  rw [← hKK] at hrt
  have hok := stN_ok W hs
  have HWD := Aside0.mk hwd
  have HRT := Aside0.mk hrt
  have HKK := Aside0.mk hKK
  have HBL := Aside0.mk hbl
  have HWL := Aside0.mk hWl
  have HW3 := Aside0.mk hW3
  have HOK := Aside0.mk hok
  have HS := Aside0.mk hs
  clear hwd hrt hKK hbl hWl hW3 hok hr0 hW hs hall hl0
  obtain ⟨x0, x1, x2, x3, x4, x5, x6, x7⟩ := s
  show Calls Tryd.prog 17 #[.agg #[.int .u32 (x0 : Int), .int .u32 (x1 : Int), .int .u32 (x2 : Int), .int .u32 (x3 : Int), .int .u32 (x4 : Int), .int .u32 (x5 : Int), .int .u32 (x6 : Int), .int .u32 (x7 : Int)], .slice A0 64 c0] w _
  go_enter Tryd.func17, Tryd.ntmps17
  go_wp2_with (go_at_call 24; ((with_reducible refine (HWD.out _ ?hB1).mono ?_)))
  case hB1 => exact ((Below.refl _ w).alloc (Nat.le_refl _) _).alloc (by simp) _
  rintro e w1 ⟨v1, rfl, hR1, hb1⟩
  obtain ⟨A1, c1, rfl, hl1, hC1⟩ := Kd.R_reads hR1
  rw [intsN_len, HWL.out] at hC1 hl1 ⊢
  have g0 : w1.heap[w.heap.size]? = some (.cells (H8.mk x0 x1 x2 x3 x4 x5 x6 x7).vals.toArray 50 (0, 0)) := (hb1.block _ (by simp only [World.size_alloc]; omega)).trans (heap_alloc2_old w _ _)
  have g1 : w1.heap[w.heap.size + 1]? = some (.cells (H8.mk 0 0 0 0 0 0 0 0).vals.toArray 50 (0, 0)) := (hb1.block _ (by simp only [World.size_alloc]; omega)).trans (heap_alloc2_new w _ _)
  have HC1 := Aside0.mk hC1
  have G0 := Aside0.mk g0
  have G1 := Aside0.mk g1
  have HB1 := Aside0.mk (below_step (((Below.refl _ w).alloc (Nat.le_refl _) _).alloc (by simp) _) hb1)
  clear hR1 hC1 g0 g1 hb1
  go_wp2_with (go_at_call 25; ((with_reducible refine (HRT.out _).mono ?_)))
  rintro e w2 ⟨v2, rfl, hR2, hb2⟩
  obtain ⟨A2, c2, rfl, hl2, hC2⟩ := Kd.R_reads hR2
  have hkl : KK.length = 64 := by rw [HKK.out]; rfl
  rw [intsN_len, hkl] at hC2 hl2 ⊢
  have G0 := Aside0.mk ((hb2.block _ (Array.getElem?_eq_some_iff.1 G0.out).1).trans G0.out)
  have G1 := Aside0.mk ((hb2.block _ (Array.getElem?_eq_some_iff.1 G1.out).1).trans G1.out)
  have HB2 := Aside0.mk (below_step HB1.out hb2)
  have HC1 := Aside0.mk (Kd.C_below HC1.out hb2)
  have HC2 := Aside0.mk hC2
  clear hR2 hC2 hb2 hkl
  obtain ⟨ad1, rfl, -⟩ := Kd.at_int HC1.out 0 (by decide) (by decide)
  obtain ⟨ad2, rfl, -⟩ := Kd.at_int HC2.out 0 (by decide) (by decide)
  obtain ⟨S0, hS0⟩ : ∃ S0 : H8, S0 = ⟨x0, x1, x2, x3, x4, x5, x6, x7⟩ := ⟨_, rfl⟩
  rw [← hS0] at G0 HBL HOK HS
  have HS0 := Aside0.mk hS0
  clear hS0
  go_wp2_with (first | (with_reducible refine wpList_load_row rfl 50 (.tmp 2) rfl w.heap.size rfl 50 S0.vals.toArray (0, 0) _ G0.out Tryd.underlying50 rfl (vals_size8 _) ?_) | (with_reducible refine wpList_store_row rfl 50 (.tmp 7) (.tmp 21) rfl w2.heap.size S0.vals.toArray rfl rfl 50 _ (heap_alloc_new w2 _) (vals_size8 _) rfl (vals_one _) ?_))
  go_loopw [8] (fun v8 wr => ∃ k : Nat, k ≤ 64 ∧ v8 = .int .i64 (k : Int) ∧ Aside0 (wr.heap[w2.heap.size]? = some (.cells (stN W S0 k).vals.toArray 50 (0, 0)) ∧ Below w2.heap.size w2 wr)) (fun v8 _ => 64 - (intOf v8).toNat)
  case atStart => exact ⟨0, Nat.zero_le _, rfl, ⟨setRow_heap _ _ _ _ _ _ (heap_alloc_new w2 _), below_setRow ((Below.refl _ w2).alloc (Nat.le_refl _) _) (Nat.le_refl _) _⟩⟩
  case round =>
    obtain ⟨k, hk, rfl, ⟨⟨hb7, hbw⟩⟩⟩ := hrel
    by_cases h64 : k < 64
    · have hok := HOK.out k
      obtain ⟨st, hst⟩ : ∃ st, st = stN W S0 k := ⟨_, rfl⟩
      have HST := Aside0.mk hst
      rw [← hst] at hb7 hok
      obtain ⟨q0, q1, q2, q3, q4, q5, q6, q7⟩ := cell8 hb7
      obtain ⟨_, ea, hxc⟩ := Kd.at_int (Kd.C_below HC1.out hbw) (k : Int) (by omega) (by omega)
      cases ea
      obtain ⟨_, ea, hkc⟩ := Kd.at_int (Kd.C_below HC2.out hbw) (k : Int) (by omega) (by omega)
      cases ea
      rw [rd_ints, Int.toNat_natCast] at hxc hkc
      have hx := HW3.out k
      have hkl : KK.getD k 0 < 4294967296 := by
        rw [HKK.out]
        exact rootsN_lt _ (by
          rw [List.getD_eq_getElem?_getD, List.getElem?_eq_getElem (by rw [rootsN_len]; exact h64)]
          exact List.getElem_mem _)
      obtain ⟨x, hxe⟩ : ∃ x, x = W.getD k 0 := ⟨_, rfl⟩
      obtain ⟨K, hK⟩ : ∃ K, K = KK.getD k 0 := ⟨_, rfl⟩
      rw [← hxe] at hxc hx
      rw [← hK] at hkc hkl
      have HX := Aside0.mk hxe
      have HK := Aside0.mk (show K = rootsN.getD k 0 by rw [hK, HKK.out])
      have f0 := blk_frozen hb7 0
      have f1 := blk_frozen hb7 1
      have f2 := blk_frozen hb7 2
      have f3 := blk_frozen hb7 3
      have f4 := blk_frozen hb7 4
      have f5 := blk_frozen hb7 5
      have f6 := blk_frozen hb7 6
      have f7 := blk_frozen hb7 7
      have HB7 := Aside0.mk hb7
      have HBW := Aside0.mk hbw
      obtain ⟨sa, sb, sc, sd, se, sf, sg, sh⟩ := st
      obtain ⟨ba, bb, bc, bd, be, bf, bg, bh⟩ := hok
      simp only at q0 q1 q2 q3 q4 q5 q6 q7 ba bb bc bd be bf bg bh
      clear hst hxe hK hb7 hbw
      have R6 := Aside0.mk (rot_ref se 6 6 rfl be (by decide))
      have R11 := Aside0.mk (rot_ref se 11 11 rfl be (by decide))
      have R25 := Aside0.mk (rot_ref se 25 25 rfl be (by decide))
      have R2 := Aside0.mk (rot_ref sa 2 2 rfl ba (by decide))
      have R13 := Aside0.mk (rot_ref sa 13 13 rfl ba (by decide))
      have R22 := Aside0.mk (rot_ref sa 22 22 rfl ba (by decide))
      have ht1 : ((sh : Int) + bits .xor .u32 (bits .xor .u32 ((rotr se 6 : Nat) : Int) ((rotr se 11 : Nat) : Int)) ((rotr se 25 : Nat) : Int) + bits .xor .u32 (bits .and .u32 (se : Int) (sf : Int)) (bits .and .u32 (bits .xor .u32 IntKind.u32.max (se : Int)) (sg : Int)) + (K : Int) + (x : Int)) % 4294967296 = ((t1N ⟨sa, sb, sc, sd, se, sf, sg, sh⟩ x K : Nat) : Int) := by
        rw [bS1_int se be, chX_int se sf sg be bf bg]; unfold t1N; simp only; omega
      have ht2 : (bits .xor .u32 (bits .xor .u32 ((rotr sa 2 : Nat) : Int) ((rotr sa 13 : Nat) : Int)) ((rotr sa 22 : Nat) : Int) + bits .xor .u32 (bits .xor .u32 (bits .and .u32 (sa : Int) (sb : Int)) (bits .and .u32 (sa : Int) (sc : Int))) (bits .and .u32 (sb : Int) (sc : Int))) % 4294967296 = ((t2N ⟨sa, sb, sc, sd, se, sf, sg, sh⟩ : Nat) : Int) := by
        rw [bS0_int sa ba, majX_int sa sb sc ba bb bc]; unfold t2N; simp only; omega
      have hrn : rndN ⟨sa, sb, sc, sd, se, sf, sg, sh⟩ x K = ⟨(t1N ⟨sa, sb, sc, sd, se, sf, sg, sh⟩ x K + t2N ⟨sa, sb, sc, sd, se, sf, sg, sh⟩) % 4294967296, sa, sb, sc, (sd + t1N ⟨sa, sb, sc, sd, se, sf, sg, sh⟩ x K) % 4294967296, se, sf, sg⟩ := rfl
      have l1 : t1N ⟨sa, sb, sc, sd, se, sf, sg, sh⟩ x K < 4294967296 := Nat.mod_lt _ (by decide)
      have l2 : t2N ⟨sa, sb, sc, sd, se, sf, sg, sh⟩ < 4294967296 := Nat.mod_lt _ (by decide)
      obtain ⟨t1, h1⟩ : ∃ t, t = t1N ⟨sa, sb, sc, sd, se, sf, sg, sh⟩ x K := ⟨_, rfl⟩
      obtain ⟨t2, h2⟩ : ∃ t, t = t2N ⟨sa, sb, sc, sd, se, sf, sg, sh⟩ := ⟨_, rfl⟩
      rw [← h1] at ht1 hrn l1
      rw [← h2] at ht2 hrn l2
      have T1 := Aside0.mk ht1
      have T2 := Aside0.mk ht2
      have HRN := Aside0.mk hrn
      clear ht1 ht2 hrn h1 h2
      go_wp2
      go_quiet ((go_at_call 26; first | with_reducible exact R6.out _ _ | with_reducible exact R11.out _ _ | with_reducible exact R25.out _ _))
      go_wp2
      rw [T1.out]
      go_quiet ((go_at_call 26; first | with_reducible exact rot_ref2 R2.out | with_reducible exact rot_ref2 R13.out | with_reducible exact rot_ref2 R22.out))
      go_wp2
      go_roundw
      case rel =>
        have h2 : stN W S0 (k + 1) = rndN (H8.mk sa sb sc sd se sf sg sh) x K := by rw [stN, ← HST.out, ← HX.out, ← HK.out]
        have t2v := T2.out
        have hv : ((t1 : Int) + (bits .xor .u32 (bits .xor .u32 ((rotr sa 2 : Nat) : Int) ((rotr sa 13 : Nat) : Int)) ((rotr sa 22 : Nat) : Int) + bits .xor .u32 (bits .xor .u32 (bits .and .u32 (sa : Int) (sb : Int)) (bits .and .u32 (sa : Int) (sc : Int))) (bits .and .u32 (sb : Int) (sc : Int)))) % 4294967296 = (((t1 + t2) % 4294967296 : Nat) : Int) := by
          generalize (bits .xor .u32 (bits .xor .u32 ((rotr sa 2 : Nat) : Int) ((rotr sa 13 : Nat) : Int)) ((rotr sa 22 : Nat) : Int) + bits .xor .u32 (bits .xor .u32 (bits .and .u32 (sa : Int) (sb : Int)) (bits .and .u32 (sa : Int) (sc : Int))) (bits .and .u32 (sb : Int) (sc : Int))) = R at t2v ⊢
          omega
        have e1 : ((sd : Int) + (t1 : Int)) % 4294967296 = (((sd + t1) % 4294967296 : Nat) : Int) := by omega
        refine ⟨k + 1, by omega, by go_num, ⟨?_, ?_⟩⟩
        · rw [hv, e1, h2, HRN.out]
          exact blk_set (blk_set (blk_set (blk_set (blk_set (blk_set (blk_set (blk_set (w := wr.drewN _) HB7.out 0 _) 1 _) 2 _) 3 _) 4 _) 5 _) 6 _) 7 _
        · exact ((((((((pw_below_drewN HBW.out _).setCell (Nat.le_refl _) _).setCell (Nat.le_refl _) _).setCell (Nat.le_refl _) _).setCell (Nat.le_refl _) _).setCell (Nat.le_refl _) _).setCell (Nat.le_refl _) _).setCell (Nat.le_refl _) _).setCell (Nat.le_refl _) _
      case measure => simp [intOf]; omega
    · obtain rfl : k = 64 := by omega
      have hok := HOK.out 64
      obtain ⟨st, hst⟩ : ∃ st, st = stN W S0 64 := ⟨_, rfl⟩
      have HST := Aside0.mk hst
      rw [← hst] at hb7 hok
      have hpl : (addN st S0).nats.length = 8 := rfl
      have hql : st.nats.length = 8 := rfl
      have hb70 : wr.heap[w2.heap.size]? = some (.cells (over8 (addN st S0).nats st.nats 0).toArray 50 (0, 0)) := hb7
      have HB7 := Aside0.mk hb70
      have HBW := Aside0.mk hbw
      have HOK2 := Aside0.mk hok
      have G0 := Aside0.mk ((hbw.block _ (Array.getElem?_eq_some_iff.1 G0.out).1).trans G0.out)
      have G1 := Aside0.mk ((hbw.block _ (Array.getElem?_eq_some_iff.1 G1.out).1).trans G1.out)
      have hsz : w.heap.size + 1 < w2.heap.size := (Array.getElem?_eq_some_iff.1 ‹Aside0 (w2.heap[w.heap.size + 1]? = _)›.out).1
      clear hst hb7 hb70 hbw hok
      obtain ⟨P, hP⟩ : ∃ P, P = (addN st S0).nats := ⟨_, rfl⟩
      have HP := Aside0.mk hP
      rw [← hP] at hpl HB7
      clear hP
      go_wp2
      obtain ⟨wo, hwo⟩ : ∃ wo : World, wo = wr := ⟨_, rfl⟩
      have HSZ := Aside0.mk hsz
      clear hsz
      go_loopw [13] (fun v13 wr => ∃ k : Nat, k ≤ 8 ∧ v13 = .int .i64 (k : Int) ∧ Aside0 (wr.heap[w2.heap.size]? = some (.cells (over8 P st.nats k).toArray 50 (0, 0))) ∧ Aside0 (wr.heap[w.heap.size]? = some (.cells S0.vals.toArray 50 (0, 0))) ∧ Aside0 (wr.heap[w.heap.size + 1]? = some (.cells (H8.mk 0 0 0 0 0 0 0 0).vals.toArray 50 (0, 0))) ∧ Aside0 (Below w2.heap.size w2 wr)) (fun v13 _ => 8 - (intOf v13).toNat)
      case atStart => exact ⟨0, Nat.zero_le _, rfl, HB7, G0, G1, HBW⟩
      case round =>
        obtain ⟨k, hk, rfl, HB7, HB5, HB4, HBW⟩ := hrel
        by_cases h8 : k < 8
        · have c2 : wr.cell? ⟨w2.heap.size, k, none⟩ = some (.int .u32 ((st.nats.getD k 0 : Nat) : Int)) := by
            rw [blk_cell HB7.out k]; simpa using over8_at hpl hql h8
          have c5 : wr.cell? ⟨w.heap.size, k, none⟩ = some (.int .u32 ((S0.nats.getD k 0 : Nat) : Int)) := by
            rw [blk_cell HB5.out k]
            have hc : k = 0 ∨ k = 1 ∨ k = 2 ∨ k = 3 ∨ k = 4 ∨ k = 5 ∨ k = 6 ∨ k = 7 := by omega
            rcases hc with rfl | rfl | rfl | rfl | rfl | rfl | rfl | rfl <;> rfl
          have f2 := blk_frozen HB7.out k
          have hv : (P.getD k 0) = (st.nats.getD k 0 + S0.nats.getD k 0) % 4294967296 := by rw [HP.out]; exact addN_nats st S0 k h8
          have l1 := nats_lt HOK2.out k
          have l2 := nats_lt HS.out k
          obtain ⟨u, hu⟩ : ∃ u, u = st.nats.getD k 0 := ⟨_, rfl⟩
          obtain ⟨t, ht⟩ : ∃ t, t = S0.nats.getD k 0 := ⟨_, rfl⟩
          rw [← hu] at c2 hv l1
          rw [← ht] at c5 hv l2
          have HV := Aside0.mk hv
          have kk0 : (k : Int) < 8 := by omega
          clear hv hu ht hwo
          go_wp2
          go_region
          go_wp2
          go_roundw
          case rel =>
            have e1 : ((u : Int) + (t : Int)) % 4294967296 = ((P.getD k 0 : Nat) : Int) := by rw [HV.out]; omega
            have hsz := HSZ.out
            refine ⟨k + 1, by omega, by go_num, ⟨?_⟩, ⟨(Below.heap_setCell wr ⟨w2.heap.size, k, none⟩ _ _ (by show w.heap.size ≠ w2.heap.size; omega)).trans HB5.out⟩, ⟨(Below.heap_setCell wr ⟨w2.heap.size, k, none⟩ _ _ (by show w.heap.size + 1 ≠ w2.heap.size; omega)).trans HB4.out⟩, ⟨(HBW.out.setCell (by simp) _).drew⟩⟩
            rw [e1, ← over8_set hpl hql h8]
            have h1 := blk_set HB7.out k (Value.int .u32 ((P.getD k 0 : Nat) : Int))
            show (wr.setCell _ _).heap[_]? = _
            simpa only [List.setIfInBounds_toArray] using h1
          case measure => simp [intOf]; omega
        · obtain rfl : k = 8 := by omega
          have e8 : over8 P st.nats 8 = (addN st S0).vals := by rw [HP.out]; rfl
          rw [e8] at HB7
          clear hwo
          go_wp2_with (first | (with_reducible refine wpList_load_row rfl 50 (.tmp 7) rfl w2.heap.size rfl 50 (addN st S0).vals.toArray (0, 0) _ HB7.out Tryd.underlying50 rfl ?aI ?_) | (with_reducible refine wpList_store_row rfl 50 (.tmp 4) (.tmp 118) rfl (w.heap.size + 1) (addN st S0).vals.toArray rfl rfl 50 _ HB4.out ?bI ?bO ?bC ?_))
          case aI => exact size8
          case bI => exact size8
          case bO => rfl
          case bC => rw [H8.vals_nats]; exact u32s_one _
          have hr := setRow_heap wr (w.heap.size + 1) _ (addN st S0).vals.toArray _ _ HB4.out
          rw [← HS0.out, HBL.out, ← HST.out]
          refine bodyPost_ret (v := .agg (addN st S0).vals.toArray) (results_cell_row rfl _ _ (w.heap.size + 1) 50 (addN st S0).vals.toArray (0, 0) _ rfl hr Tryd.underlying50 rfl size8) rfl ⟨rfl, below_setRow (below_step HB2.out HBW.out) (by simp) _⟩
end Go.Proofs.YtlddionmkblioaaDoor.E

/- The document's Sum by hand. -/
namespace Go.Proofs.YtlddionmkblioaaDoor.E
open Go.RowKit Go.Proofs.YtlddionmkblioaaDoorW.PrintWords Go.Proofs.YtlddionmkblioaaDoorW.PrintLast Go.Proofs.YtlddionmkblioaaDoorW.PrintMore Go.Proofs.YtlddionmkblioaaDoor.Pr
set_option linter.unusedVariables false
set_option linter.unusedSimpArgs false
attribute [local go_sem ↓] Go.wp_at_zero Go.wp_at_succ
set_option maxHeartbeats 8000000 in
set_option maxRecDepth 100000 in
theorem rsum_any (A : Option Addr) (c : Nat) (l : List Int) (W : World) (hr : Kd.C (Kd.int .u8) W A l.length l) (hc : l.length ≤ c) (hl : l.length ≤ 1000000) (hb : ∀ x ∈ l, 0 ≤ x ∧ x ≤ 255) :
    Calls Tryd.prog 12 #[.slice A l.length c] W fun e w' => ∃ v0_ : Value, e = .returned v0_ ∧ Kd.R (Kd.int .u8) 5 w' W.heap.size (fun _ => True) v0_ (shaL l) ∧ Below W.heap.size W w' := by
  have HR := Aside0.mk hr
  have hpad := fun (X : World) => wicketmanref02_Pad.calls 120 (l.length : Int) (padL l.length) X (ref_pad l.length (by omega) 120 (Nat.le_refl _))
  have hpl := padL_len l.length
  have hpl2 : (padL l.length).length ≤ 72 := by omega
  have HPAD := Aside0.mk hpad
  have HPL := Aside0.mk hpl
  have HALL := Aside0.mk hb
  clear hr hb hpad hpl
  go_enter Tryd.func12, Tryd.ntmps12
  go_wp2_with (at_builtin; refine Kd.R_append_rows (Kd.int .u8) (w0 := W) W.heap.size rfl (.tmp 10) (.tmp 11) 24 5 (.int .u8 0) 1 rfl Tryd.underlying24 info5b rfl (by decide) (by omega) (.slice none 0 0) [] l _ _ _ (fun _ => True) (fun _ => False) rfl rfl (Kd.R_nil _ _ _ _ _) HR.out (fun _ _ h => h) (fun _ h => h.elim) (fun _ _ => trivial) (Below.refl _ _) (Nat.le_refl _) (by simp; omega) ?_)
  intro v1 w1 hR1 hb1 _ _
  obtain ⟨A1, c1, rfl⟩ := Kd.R_slice hR1
  have HR1 := Aside0.mk hR1
  have HB1 := Aside0.mk hb1
  clear hR1 hb1
  go_wp2_with (go_at_call 16; ((with_reducible refine (HPAD.out _).mono ?_)))
  rintro e w2 ⟨v2, rfl, hR2, hb2⟩
  obtain ⟨A2, c2, rfl, hl2, hC2⟩ := Kd.R_reads hR2
  have HB2 := Aside0.mk (below_step HB1.out hb2)
  have HR12 := Aside0.mk (Kd.R_below HR1.out hb2)
  have HC2 := Aside0.mk hC2
  clear hR2 hb2 hC2 hl2 HR1 HB1
  go_wp2_with (at_builtin; refine Kd.R_append_rows (Kd.int .u8) (w0 := W) W.heap.size rfl (.tmp 17) (.tmp 18) 24 5 (.int .u8 0) 1 rfl Tryd.underlying24 info5b rfl (by decide) (by omega) (.slice A1 l.length c1) l (padL l.length) _ _ _ (fun _ => True) (fun _ => False) rfl rfl HR12.out HC2.out (fun _ _ h => h) (fun _ h => h.elim) (fun _ _ => trivial) HB2.out HB2.out.size (by omega) ?_)
  intro v3 w3 hR3 hb3 _ _
  obtain ⟨ys, hys⟩ : ∃ ys, ys = l ++ padL l.length := ⟨_, rfl⟩
  have hyl : ys.length = 64 * blocks l.length := by rw [hys, List.length_append, HPL.out]; exact blocks_eq _
  have hyb : ∀ x ∈ ys, 0 ≤ x ∧ x ≤ 255 := by
    intro x hx
    rw [hys] at hx
    rcases List.mem_append.1 hx with h | h
    · exact HALL.out x h
    · exact padL_bytes _ x h
  have hyl2 : ys.length ≤ 1000072 := by rw [hys, List.length_append]; omega
  rw [← hys] at hR3
  have hsha : shaL l = digL (runB ivH ys (blocks l.length)).nats := by rw [hys]; rfl
  obtain ⟨m, hm⟩ : ∃ m, m = blocks l.length := ⟨_, rfl⟩
  rw [← hm] at hyl hsha
  obtain ⟨A3, c3, rfl, hl3, hC3⟩ := Kd.R_reads hR3
  rw [hyl] at hl3 hC3 ⊢
  rw [hyl] at hyl2
  have HC3 := Aside0.mk hC3
  have HCL := Aside0.mk hl3
  have HB3 := Aside0.mk hb3
  have HYL := Aside0.mk hyl
  have HYB := Aside0.mk hyb
  have HSHA := Aside0.mk hsha
  clear hR3 hb3 HR12 HB2 HC2 hys hyl hyb hsha hm HPL HALL hl3 hC3
  go_wp2
  go_loopw [6] (fun v6 wr => ∃ i : Nat, i ≤ m ∧ v6 = .int .i64 (64 * (i : Int)) ∧ Aside0 (wr.heap[w3.heap.size]? = some (.cells (runB ivH ys i).vals.toArray 50 (0, 0)) ∧ Below w3.heap.size w3 wr)) (fun v6 _ => ys.length - (intOf v6).toNat)
  case atStart => exact ⟨0, Nat.zero_le _, rfl, ⟨heap_alloc_new w3 _, (Below.refl _ w3).alloc (Nat.le_refl _) _⟩⟩
  case round =>
    obtain ⟨i, him, rfl, ⟨⟨hh, hbw⟩⟩⟩ := hrel
    by_cases hlt : i < m
    · have hC := Kd.C_below HC3.out hbw
      obtain ⟨ad, rfl, -⟩ := Kd.at_int hC 0 (by omega) (by have := HYL.out; omega)
      have hx := C_sub (l := ys) (by have := HYL.out; rw [← this] at hC; exact hC) (64 * i) 64 (by have := HYL.out; omega)
      obtain ⟨x, hxe⟩ : ∃ x, x = (ys.drop (64 * i)).take 64 := ⟨_, rfl⟩
      have hxb : ∀ z ∈ x, 0 ≤ z ∧ z ≤ 255 := by rw [hxe]; exact fun z hz => HYB.out z (List.mem_of_mem_drop (List.mem_of_mem_take hz))
      have hstep : runB ivH ys (i + 1) = blockN (runB ivH ys i) x := by rw [hxe]; unfold runB; rw [chunksL_succ, List.foldl_append]; rfl
      have hok : (runB ivH ys i).ok := foldB_ok ivH_ok _
      rw [← hxe] at hx
      obtain ⟨st, hst⟩ : ∃ st, st = runB ivH ys i := ⟨_, rfl⟩
      rw [← hst] at hh hok hstep
      have hblk := fun (X : World) (hX : Below wr.heap.size wr X) => rblock_any st hok (some (ad.add (64 * i))) (c3 - 64 * i) x X (Kd.C_below hx hX) (by have := HYL.out; have := HCL.out; omega) hxb
      have HH := Aside0.mk hh
      have HBW := Aside0.mk hbw
      have HSTEP := Aside0.mk hstep
      obtain ⟨sa, sb, sc, sd, se, sf, sg, sh⟩ := st
      obtain ⟨q0, q1, q2, q3, q4, q5, q6, q7⟩ := cell8 hh
      have HBLK := Aside0.mk hblk
      have hci : c3 ≠ 64 * i := by have := HYL.out; have := HCL.out; omega
      have hle : (64 * (i : Int)) + 64 ≤ 64 * (m : Int) := by omega
      have hle2 : (64 * (i : Int)) < 64 * (m : Int) := by omega
      have hcut : ∀ X : World, (Instr.slice 24 (.slice (some ad) (64 * m) c3) (some (.int .i64 (64 * (i : Int)))) (some (.int .i64 (64 * (i : Int) + 64))) none).run Tryd.prog X = .ok (.slice (some (ad.add (64 * i))) 64 (c3 - 64 * i)) X := by
        obtain ⟨i0, hi0, hz0, hz1, hz2⟩ := info_parts info5b
        have h := cut_mid (P := Tryd.prog) 24 5 .i64 .i64 Tryd.underlying24 hi0 1 hz1 (some ad) (64 * m) c3 (64 * (i : Int)) (64 * (i : Int) + 64) (by omega) (by omega) (by omega) HCL.out
        have e1 : (64 * (i : Int)).toNat = 64 * i := by omega
        have e2 : (64 * (i : Int) + 64).toNat = 64 * i + 64 := by omega
        rw [e1, e2, if_neg hci, Option.map_some, Nat.mul_one, show 64 * i + 64 - 64 * i = 64 by omega] at h
        exact h
      have hcl := HCL.out
      have iw1 : IntKind.i64.wrap (64 * (i : Int) + 64) = 64 * (i : Int) + 64 := IntWalk.i64_in _ (by omega)
      have iw2 : (0 : Int) ≤ 64 * (i : Int) + 64 := by omega
      have iw3 : 64 * (i : Int) + 64 ≤ (c3 : Int) := by omega
      have iw4 : (0 : Int) ≤ 64 * (i : Int) := by omega
      have iw5 : max (64 * (i : Int) + 64) 0 = 64 * (i : Int) + 64 := Int.max_eq_left iw2
      have iw6 : (64 * (i : Int)).toNat = 64 * i := by omega
      have iw7 : (64 * (i : Int) + 64).toNat = 64 * i + 64 := by omega
      have iw8 : 64 * (i : Int) ≤ 64 * (i : Int) + 64 := by omega
      clear hx hxe hxb hstep hok hst hblk hh hbw hC hcl
      go_wp2
      obtain ⟨S1, hS1⟩ : ∃ S1, S1 = blockN ⟨sa, sb, sc, sd, se, sf, sg, sh⟩ x := ⟨_, rfl⟩
      have HBLK2 : ∀ X, Below wr.heap.size wr X → Calls Tryd.prog 17 #[.agg #[.int .u32 (sa : Int), .int .u32 (sb : Int), .int .u32 (sc : Int), .int .u32 (sd : Int), .int .u32 (se : Int), .int .u32 (sf : Int), .int .u32 (sg : Int), .int .u32 (sh : Int)], .slice (some (ad.add (64 * i))) 64 (c3 - 64 * i)] X fun e w' => e = .returned (.agg S1.vals.toArray) ∧ Below X.heap.size X w' := by rw [hS1]; exact HBLK.out
      have HBLK := Aside0.mk HBLK2
      have HSTEP := Aside0.mk (show runB ivH ys (i + 1) = S1 by rw [hS1]; exact HSTEP.out)
      clear HBLK2 hS1
      obtain ⟨ta, tb, tc, td, te, tf, tg, th⟩ := S1
      simp only [H8.vals] at HBLK
      go_region_with (go_at_call 17; (refine (HBLK.out _ (Below.refl _ _).drew).mono ?_; rintro e w5 ⟨rfl, hb5⟩); have g5 := (hb5.block _ (Array.getElem?_eq_some_iff.1 HH.out).1).trans HH.out; obtain ⟨p0, p1, p2, p3, p4, p5, p6, p7⟩ := cell8 g5; have f0 := blk_frozen g5 0; have f1 := blk_frozen g5 1; have f2 := blk_frozen g5 2; have f3 := blk_frozen g5 3; have f4 := blk_frozen g5 4; have f5 := blk_frozen g5 5; have f6 := blk_frozen g5 6; have f7 := blk_frozen g5 7; have G5 := Aside0.mk g5; have HB5 := Aside0.mk (below_step HBW.out.drew hb5); clear hb5 g5 HBLK)
      go_wp2
      go_roundw
      case rel =>
        refine ⟨i + 1, by omega, by go_num, ⟨?_, ?_⟩⟩
        · rw [HSTEP.out]
          exact blk_set (blk_set (blk_set (blk_set (blk_set (blk_set (blk_set (blk_set G5.out 0 _) 1 _) 2 _) 3 _) 4 _) 5 _) 6 _) 7 _
        · exact (((((((HB5.out.setCell (Nat.le_refl _) _).setCell (Nat.le_refl _) _).setCell (Nat.le_refl _) _).setCell (Nat.le_refl _) _).setCell (Nat.le_refl _) _).setCell (Nat.le_refl _) _).setCell (Nat.le_refl _) _).setCell (Nat.le_refl _) _
      case measure => have := HYL.out; simp [intOf]; omega
    · obtain rfl : i = m := by omega
      have hok : (runB ivH ys i).ok := foldB_ok ivH_ok _
      have hsh := HSHA.out
      obtain ⟨st, hst⟩ : ∃ st, st = runB ivH ys i := ⟨_, rfl⟩
      rw [← hst] at hh hok hsh
      have HH := Aside0.mk hh
      have HBW := Aside0.mk (below_step HB3.out hbw)
      have HSH := Aside0.mk hsh
      have HOK := Aside0.mk hok
      clear hst hh hbw hok hsh
      obtain ⟨w4, hw4⟩ : ∃ w4 : World, w4 = wr := ⟨_, rfl⟩
      subst hw4
      go_wp2
      go_loopw [7, 8] (fun v7 v8 wx => ∃ (k : Nat), k ≤ 8 ∧ v8 = .int .i64 (k : Int) ∧ Aside0 (Kd.R (Kd.int .u8) 5 wx w4.heap.size (fun _ => True) v7 (digL (st.nats.take k)) ∧ Below w4.heap.size w4 wx)) (fun _ v8 _ => 8 - (intOf v8).toNat)
      case atStart => exact ⟨0, Nat.zero_le _, rfl, ⟨Kd.R_nil _ _ _ _ _, Below.refl _ _⟩⟩
      case round =>
        obtain ⟨k, hk, rfl, ⟨⟨hR, hbx⟩⟩⟩ := hrel
        obtain ⟨A6, c6, rfl⟩ := Kd.R_slice hR
        have hdl : (digL (st.nats.take k)).length = 4 * k := by
          have : (st.nats.take k).length = k := by rw [List.length_take]; show min k 8 = k; omega
          have e : ∀ l : List Nat, (digL l).length = 4 * l.length := by
            intro l
            induction l with
            | nil => rfl
            | cons a l ih => show (beN a 4 ++ digL l).length = _; rw [List.length_append, beN_length, ih, List.length_cons]; omega
          rw [e, this]
        by_cases h8 : k < 8
        · have hn := nats_lt HOK.out k
          have hcell : wr.cell? ⟨w3.heap.size, k, none⟩ = some (.int .u32 ((st.nats.getD k 0 : Nat) : Int)) := by
            rw [blk_cell ((hbx.block _ (Array.getElem?_eq_some_iff.1 HH.out).1).trans HH.out) k]
            have hc : k = 0 ∨ k = 1 ∨ k = 2 ∨ k = 3 ∨ k = 4 ∨ k = 5 ∨ k = 6 ∨ k = 7 := by omega
            rcases hc with rfl | rfl | rfl | rfl | rfl | rfl | rfl | rfl <;> rfl
          have hdk : digL (st.nats.take (k + 1)) = digL (st.nats.take k) ++ beN (st.nats.getD k 0) 4 := by
            have h7 : k < st.nats.length := h8
            rw [List.take_succ_eq_append_getElem h7]
            have : ∀ a b : List Nat, digL (a ++ b) = digL a ++ digL b := fun a b => by simp [digL]
            rw [this]
            simp [digL, List.getD_eq_getElem?_getD, h7]
          obtain ⟨n, hnn⟩ : ∃ n, n = st.nats.getD k 0 := ⟨_, rfl⟩
          rw [← hnn] at hcell hn hdk
          have hput := fun X : World => wicketmanref01_Put.calls 50 (n : Int) 4 (beN n 4) X (ref_put4 n (by omega) 50 (Nat.le_refl _))
          have hwn : IntKind.u64.wrap (n : Int) = (n : Int) := wraps_u64 _ (by omega) (by omega)
          have kk0 : (k : Int) < 8 := by omega
          have HRR := Aside0.mk hR
          have HBW2 := Aside0.mk hbx
          have HDK := Aside0.mk hdk
          have HPUT := Aside0.mk hput
          have HDL := Aside0.mk hdl
          clear hR hbx hdk hput hnn hdl
          go_wp2_with (go_at_call 11; ((with_reducible refine (HPUT.out _).mono ?_)))
          rintro e w8 ⟨v8, rfl, hR8, hb8⟩
          obtain ⟨A8, c8, rfl, hl8, hC8⟩ := Kd.R_reads hR8
          have HB8 := Aside0.mk (below_step HBW2.out hb8)
          have HR8 := Aside0.mk (Kd.R_below HRR.out hb8)
          have HC8 := Aside0.mk hC8
          clear hR8 hb8 hC8 hl8
          have H4 := Aside0.mk (beN_length n 4)
          go_wp2_with (at_builtin; refine Kd.R_append_rows (Kd.int .u8) (w0 := w4) w4.heap.size rfl (.tmp 43) (.tmp 44) 24 5 (.int .u8 0) 1 rfl Tryd.underlying24 info5b rfl (by decide) (by omega) (.slice A6 (digL (st.nats.take k)).length c6) (digL (st.nats.take k)) (beN n 4) _ _ _ (fun _ => True) (fun _ => False) rfl rfl HR8.out HC8.out (fun _ _ h => h) (fun _ h => h.elim) (fun _ _ => trivial) HB8.out HB8.out.size (by have := HDL.out; have := H4.out; omega) ?_; intro v9 w9 hR9 hb9 _ _; have HR9 := Aside0.mk hR9; have HB9 := Aside0.mk hb9; clear hR9 hb9)
          go_roundw
          case rel => exact ⟨k + 1, by omega, by go_num, ⟨by rw [HDK.out]; exact HR9.out, HB9.out⟩⟩
          case measure => simp [intOf]; omega
        · obtain rfl : k = 8 := by omega
          have e8 : digL (st.nats.take 8) = shaL l := by rw [HSH.out]; rfl
          rw [e8] at hR hdl ⊢
          have HRR := Aside0.mk hR
          have HBX := Aside0.mk hbx
          clear hR hbx e8 hdl
          go_wp2
          go_ret
          exact ⟨_, rfl, Kd.R_lower HRR.out HBW.out.size, below_step HBW.out HBX.out⟩

def wicketmanref02_Sum.f (k : Nat) (l0 : List Int) : Option (List Int) := if l0.length ≤ 1000000 ∧ ∀ x ∈ l0, 0 ≤ x ∧ x ≤ 255 then some (shaL l0) else none
theorem wicketmanref02_Sum.calls (k : Nat) (A0 : Option Addr) (c0 : Nat) (l0 : List Int) (r : List Int) (w : World) (hr0 : Kd.C (Kd.int .u8) w A0 l0.length l0) (hc0 : l0.length ≤ c0) (h : wicketmanref02_Sum.f k l0 = some r) :
    Calls Tryd.prog 12 #[.slice A0 l0.length c0] w fun e w' => ∃ v0_ : Value, e = .returned (v0_) ∧ Kd.R (Kd.int .u8) 5 w' w.heap.size (fun _ => True) v0_ r ∧ Below w.heap.size w w' := by
  unfold wicketmanref02_Sum.f at h
  split at h
  · rename_i h2
    obtain rfl := Option.some.inj h
    exact rsum_any A0 c0 l0 w hr0 hc0 h2.1 h2.2
  · exact absurd h (by simp)
end Go.Proofs.YtlddionmkblioaaDoor.E

/- The document's with and Code by hand. -/
namespace Go.Proofs.YtlddionmkblioaaDoor.E
open Go.RowKit Go.Proofs.YtlddionmkblioaaDoorW.PrintWords Go.Proofs.YtlddionmkblioaaDoorW.PrintLast Go.Proofs.YtlddionmkblioaaDoorW.PrintMore Go.Proofs.YtlddionmkblioaaDoor.Pr
set_option linter.unusedVariables false
set_option linter.unusedSimpArgs false
theorem R_of_row {w : World} {base g : Nat} {l : List Int} {n : Nat} (hg : w.heap[g]? = some (.cells (rowV l) 5 (0, 0))) (hb : base ≤ g) (hn : l.length = n) (hm : n ≤ 1000) : Kd.R (Kd.int .u8) 5 w base (fun _ => True) (.slice (some ⟨g, 0, none⟩) n n) l := by
  subst hn
  refine ⟨fun _ _ => trivial, l.map (Value.int .u8), ⟨by simp [Kd.int, Kd.scalar], .inr ⟨g, l.length, rowV l, rfl, hb, hg, Nat.le_refl _, by unfold maxLen; omega, by simp [rowV, Kd.int, Kd.scalar], by simp [rowV, Kd.int, Kd.scalar, List.take_of_length_le]⟩⟩, by simp [Kd.int, Kd.scalar], fun j p hp => ?_⟩
  have hj : j < l.length := (List.getElem?_eq_some_iff.1 hp).1
  have hv := (List.getElem?_eq_some_iff.1 hp).2
  show ((l.map (Value.int .u8)).drop (j * 1)).take 1 = [Value.int .u8 p]
  rw [Nat.mul_one, List.drop_eq_getElem_cons (by simpa using hj)]
  simp [hv]
/-- The pad as the document lays it. -/
def RefAt (w : World) (P : List Int) (i : Nat) (X : World) : Prop := Below w.heap.size w X ∧ X.heap[w.heap.size]? = some (.cells (rowV (P.take i ++ List.replicate (64 - i) 0)) 5 (0, 0))
theorem refrow_len {P : List Int} (h : P.length = 64) (i : Nat) (hi : i ≤ 64) : (P.take i ++ List.replicate (64 - i) (0 : Int)).length = 64 := by
  rw [List.length_append, List.length_take, List.length_replicate]; omega
theorem refrow_set {P : List Int} (h : P.length = 64) (i : Nat) (hi : i < 64) (c x : Int) (hx : P.getD i 0 = x) : ((P.take i ++ List.replicate (64 - i) (0 : Int)).set i c).set i x = P.take (i + 1) ++ List.replicate (64 - (i + 1)) 0 := by
  have hl : (P.take i).length = i := by rw [List.length_take]; omega
  rw [List.set_set, List.set_append_right _ _ (by omega), hl, Nat.sub_self, show 64 - i = (64 - (i + 1)) + 1 by omega, List.replicate_succ, List.set_cons_zero]
  have hp : P[i]'(by omega) = x := by rw [← hx, List.getD_eq_getElem?_getD, List.getElem?_eq_getElem (by omega)]; rfl
  rw [List.take_succ_eq_append_getElem (by omega), List.append_assoc, hp]
  rfl
theorem refrow_set1 {P : List Int} (h : P.length = 64) (i : Nat) (hi : i < 64) (x : Int) (hx : P.getD i 0 = x) : (P.take i ++ List.replicate (64 - i) (0 : Int)).set i x = P.take (i + 1) ++ List.replicate (64 - (i + 1)) 0 := by
  have := refrow_set h i hi x x hx
  rwa [List.set_set] at this
set_option maxRecDepth 100000 in
set_option maxHeartbeats 8000000 in
theorem rwith_any (A : Option Addr) (c0 : Nat) (l : List Int) (cc : Nat) (hcc : cc < 256) (W : World) (hr : Kd.C (Kd.int .u8) W A l.length l) (hc : l.length ≤ c0) (hb : ∀ x ∈ l, 0 ≤ x ∧ x ≤ 255) (hl : l.length ≤ 1000000) :
    Calls Tryd.prog 15 #[.slice A l.length c0, .int .u8 (cc : Int)] W fun e w' => ∃ v, e = .returned v ∧ Kd.R (Kd.int .u8) 5 w' W.heap.size (fun _ => True) v (padK l cc) ∧ Below W.heap.size W w' := by
  have hm : ∀ W : World, (Instr.makeSlice 24 (.int .i64 64) (.int .i64 64)).run Tryd.prog W = .ok (.slice (some ⟨W.heap.size, 0, none⟩) 64 64) (W.alloc (.cells (madeCells #[.int .u8 0] 64) 5)) := print_make (P := Tryd.prog) 24 5 .u8 1 Tryd.underlying24 info5b (by decide) 64 (by decide)
  have hpk : padK l cc = (List.range 64).map fun i => ((((keyL l).getD i 0).toNat ^^^ cc : Nat) : Int) := rfl
  have hkb := keyL_bytes hb
  have hkl := keyL_le l
  have HR := Aside0.mk hr
  by_cases h64 : l.length ≤ 64
  · have h3 : ¬ (64 : Int) < (l.length : Int) := by omega
    have hke : keyL l = l := if_pos h64
    rw [hke] at hpk hkb hkl
    obtain ⟨PD, hPD⟩ : ∃ P, P = padK l cc := ⟨_, rfl⟩
    rw [← hPD] at hpk ⊢
    have HPK := Aside0.mk hpk
    have HKB := Aside0.mk hkb
    obtain ⟨kl, hkle⟩ : ∃ kl, kl = l := ⟨_, rfl⟩
    have HB0 := Aside0.mk (Below.refl W.heap.size W)
    have HCK := Aside0.mk hr
    obtain ⟨n, hn⟩ : ∃ n, n = l.length := ⟨_, rfl⟩
    rw [← hn] at HCK hkl h3 ⊢
    rw [← hkle] at HPK HKB HCK
    have hnl : n = kl.length := by rw [hn, hkle]
    have HNL := Aside0.mk hnl
    clear hr hb hc hl h64 hpk hkb hke hPD hkle hn hnl
    go_enter Tryd.func15, Tryd.ntmps15
    obtain ⟨B, hBA⟩ : ∃ B, B = A := ⟨_, rfl⟩
    rw [← hBA] at HCK ⊢
    clear hBA
    have hpl : PD.length = 64 := by rw [HPK.out]; simp
    have hw0 : RefAt W PD 0 (W.alloc (.cells (madeCells #[.int .u8 0] 64) 5)) := ⟨(Below.refl _ _).alloc (Nat.le_refl _) _, by
      rw [List.take_zero, List.nil_append, Nat.sub_zero]
      have e : rowV (List.replicate 64 (0 : Int)) = madeCells #[.int .u8 0] 64 := (made_eq 64).symm
      rw [e]; exact heap_alloc_new W _⟩
    have HW0 := Aside0.mk hw0
    have HPL := Aside0.mk hpl
    clear hw0 hpl
    go_wp2
    go_loopw [7] (fun v7 wr => ∃ i : Nat, i ≤ 64 ∧ v7 = .int .i64 (i : Int) ∧ Aside0 (RefAt W PD i wr)) (fun v7 _ => 64 - (intOf v7).toNat)
    case atStart => exact ⟨0, Nat.zero_le _, rfl, HW0⟩
    case round =>
      obtain ⟨i, hi, rfl, HP⟩ := hrel
      by_cases h64 : i < 64
      · obtain ⟨hbw, hg⟩ := HP.out
        have hlen := refrow_len HPL.out i hi
        have hpi : PD.getD i 0 = (((kl.getD i 0).toNat ^^^ cc : Nat) : Int) := by
          rw [HPK.out, List.getD_eq_getElem?_getD, List.getElem?_map, List.getElem?_range h64]; rfl
        have hci : wr.cell? ⟨W.heap.size, i, none⟩ = some (.int .u8 0) := by
          rw [cell_of_row wr W.heap.size i _ _ _ hg]
          have hlk : (PD.take i).length = i := by rw [List.length_take, HPL.out]; omega
          simp only [rowV, List.getElem?_toArray, List.getElem?_map]
          rw [List.getElem?_append_right (by omega), hlk, Nat.sub_self, List.getElem?_replicate, if_pos (by omega)]
          rfl
        have hfi := blk_frozen hg i
        have hset1 := blk_set hg i (Value.int .u8 (cc : Int))
        rw [rowV_set] at hset1
        have hfi1 := blk_frozen hset1 i
        have hbw1 : Below W.heap.size W (wr.setCell ⟨W.heap.size, i, none⟩ (.int .u8 (cc : Int))) := hbw.setCell (Nat.le_refl _) _
        have hci1 : (wr.setCell ⟨W.heap.size, i, none⟩ (.int .u8 (cc : Int))).cell? ⟨W.heap.size, i, none⟩ = some (.int .u8 (cc : Int)) := by
          rw [cell_of_row _ W.heap.size i _ _ _ hset1]
          simp only [rowV, List.getElem?_toArray, List.getElem?_map]
          rw [List.getElem?_set, if_pos rfl, if_pos (by omega)]
          rfl
        have kk0 : (i : Int) < 64 := by omega
        by_cases hin : i < n
        · obtain ⟨ad, rfl, -⟩ := Kd.at_int HCK.out (i : Int) (by omega) (by omega)
          obtain ⟨_, ea, hx⟩ := Kd.at_int (Kd.C_below HCK.out hbw1) (i : Int) (by omega) (by omega)
          cases ea
          rw [Int.toNat_natCast] at hx
          have hxb := HKB.out (rd kl (i : Int)) (rd_mem (by rw [← HNL.out]; exact hin))
          obtain ⟨x, hxe⟩ : ∃ x : Nat, rd kl (i : Int) = (x : Int) := ⟨(rd kl (i : Int)).toNat, by omega⟩
          rw [hxe] at hx hxb
          have hx256 : x < 256 := by omega
          have hxr := xor8 x cc hx256 hcc
          have hxk : kl.getD i 0 = (x : Int) := by have := hxe; simpa [rd] using this
          rw [hxk, Int.toNat_natCast] at hpi
          have hfin : RefAt W PD (i + 1) ((wr.setCell ⟨W.heap.size, i, none⟩ (.int .u8 (cc : Int))).setCell ⟨W.heap.size, i, none⟩ (.int .u8 ((x ^^^ cc : Nat) : Int))) := by
            refine ⟨hbw1.setCell (Nat.le_refl _) _, ?_⟩
            have h2 := blk_set hset1 i (Value.int .u8 ((x ^^^ cc : Nat) : Int))
            rw [rowV_set, refrow_set HPL.out i h64 _ _ hpi] at h2
            exact h2
          have HFIN := Aside0.mk hfin
          have kk1 : (i : Int) < (n : Int) := by omega
          clear hbw hg hlen hpi hset1 hbw1 hxe hxk hfin
          go_wp2
          go_roundw
          case rel => exact ⟨i + 1, by omega, by go_num, HFIN⟩
          case measure => simp [intOf]; omega
        · have hk0 : kl.getD i 0 = 0 := by rw [List.getD_eq_getElem?_getD, List.getElem?_eq_none (by rw [← HNL.out]; omega)]; rfl
          rw [hk0] at hpi
          have hpi2 : PD.getD i 0 = (cc : Int) := by rw [hpi]; simp
          have hfin : RefAt W PD (i + 1) (wr.setCell ⟨W.heap.size, i, none⟩ (.int .u8 (cc : Int))) := by
            refine ⟨hbw1, ?_⟩
            rw [refrow_set1 HPL.out i h64 _ hpi2] at hset1
            exact hset1
          have HFIN := Aside0.mk hfin
          have kk1 : ¬ (i : Int) < (n : Int) := by omega
          clear hbw hg hlen hpi hpi2 hk0 hset1 hbw1 hfin hci1 hfi1
          go_wp2
          go_roundw
          case rel => exact ⟨i + 1, by omega, by go_num, HFIN⟩
          case measure => simp [intOf]; omega
      · obtain rfl : i = 64 := by omega
        go_wp2
        go_ret
        obtain ⟨hbw, hg⟩ := HP.out
        have e : PD.take 64 ++ List.replicate (64 - 64) (0 : Int) = PD := by rw [Nat.sub_self, List.take_of_length_le (by rw [HPL.out]; exact Nat.le_refl _)]; simp
        rw [e] at hg
        exact ⟨_, rfl, R_of_row hg HB0.out.size HPL.out (by decide), below_step HB0.out hbw⟩
  · have h3 : (64 : Int) < (l.length : Int) := by omega
    have hke : keyL l = shaL l := if_neg h64
    rw [hke] at hpk hkb hkl
    obtain ⟨PD, hPD⟩ : ∃ P, P = padK l cc := ⟨_, rfl⟩
    rw [← hPD] at hpk ⊢
    have HPK := Aside0.mk hpk
    have HKB := Aside0.mk hkb
    have hsum := rsum_any A c0 l W hr hc hl hb
    have hkl2 := shaL_len l
    obtain ⟨kl, hkle⟩ : ∃ kl, kl = shaL l := ⟨_, rfl⟩
    rw [← hkle] at hsum
    rw [← hkle] at HPK HKB hkl2 hkl
    have HSUM := Aside0.mk hsum
    clear hr hb hc hl h64 hpk hkb hke hPD hkle hsum
    go_enter Tryd.func15, Tryd.ntmps15
    go_wp2_with (go_at_call 12; ((with_reducible refine (HSUM.out).mono ?_)))
    rintro e W1 ⟨v1, rfl, hR1, hb1⟩
    obtain ⟨B, d, rfl, hl1, hC1⟩ := Kd.R_reads hR1
    rw [hkl2] at hC1 hl1 ⊢
    have HB0 := Aside0.mk hb1
    have HNL := Aside0.mk hkl2.symm
    obtain ⟨n, hn⟩ : ∃ n, n = 32 := ⟨_, rfl⟩
    rw [← hn] at HNL hC1 ⊢
    have HCK := Aside0.mk hC1
    have hkl : n ≤ 64 := by omega
    clear hR1 hb1 hl1 hC1 hn hkl2 HSUM
    have hpl : PD.length = 64 := by rw [HPK.out]; simp
    have hw0 : RefAt W1 PD 0 (W1.alloc (.cells (madeCells #[.int .u8 0] 64) 5)) := ⟨(Below.refl _ _).alloc (Nat.le_refl _) _, by
      rw [List.take_zero, List.nil_append, Nat.sub_zero]
      have e : rowV (List.replicate 64 (0 : Int)) = madeCells #[.int .u8 0] 64 := (made_eq 64).symm
      rw [e]; exact heap_alloc_new W1 _⟩
    have HW0 := Aside0.mk hw0
    have HPL := Aside0.mk hpl
    clear hw0 hpl
    go_wp2
    go_loopw [7] (fun v7 wr => ∃ i : Nat, i ≤ 64 ∧ v7 = .int .i64 (i : Int) ∧ Aside0 (RefAt W1 PD i wr)) (fun v7 _ => 64 - (intOf v7).toNat)
    case atStart => exact ⟨0, Nat.zero_le _, rfl, HW0⟩
    case round =>
      obtain ⟨i, hi, rfl, HP⟩ := hrel
      by_cases h64 : i < 64
      · obtain ⟨hbw, hg⟩ := HP.out
        have hlen := refrow_len HPL.out i hi
        have hpi : PD.getD i 0 = (((kl.getD i 0).toNat ^^^ cc : Nat) : Int) := by
          rw [HPK.out, List.getD_eq_getElem?_getD, List.getElem?_map, List.getElem?_range h64]; rfl
        have hci : wr.cell? ⟨W1.heap.size, i, none⟩ = some (.int .u8 0) := by
          rw [cell_of_row wr W1.heap.size i _ _ _ hg]
          have hlk : (PD.take i).length = i := by rw [List.length_take, HPL.out]; omega
          simp only [rowV, List.getElem?_toArray, List.getElem?_map]
          rw [List.getElem?_append_right (by omega), hlk, Nat.sub_self, List.getElem?_replicate, if_pos (by omega)]
          rfl
        have hfi := blk_frozen hg i
        have hset1 := blk_set hg i (Value.int .u8 (cc : Int))
        rw [rowV_set] at hset1
        have hfi1 := blk_frozen hset1 i
        have hbw1 : Below W1.heap.size W1 (wr.setCell ⟨W1.heap.size, i, none⟩ (.int .u8 (cc : Int))) := hbw.setCell (Nat.le_refl _) _
        have hci1 : (wr.setCell ⟨W1.heap.size, i, none⟩ (.int .u8 (cc : Int))).cell? ⟨W1.heap.size, i, none⟩ = some (.int .u8 (cc : Int)) := by
          rw [cell_of_row _ W1.heap.size i _ _ _ hset1]
          simp only [rowV, List.getElem?_toArray, List.getElem?_map]
          rw [List.getElem?_set, if_pos rfl, if_pos (by omega)]
          rfl
        have kk0 : (i : Int) < 64 := by omega
        by_cases hin : i < n
        · obtain ⟨ad, rfl, -⟩ := Kd.at_int HCK.out (i : Int) (by omega) (by omega)
          obtain ⟨_, ea, hx⟩ := Kd.at_int (Kd.C_below HCK.out hbw1) (i : Int) (by omega) (by omega)
          cases ea
          rw [Int.toNat_natCast] at hx
          have hxb := HKB.out (rd kl (i : Int)) (rd_mem (by rw [← HNL.out]; exact hin))
          obtain ⟨x, hxe⟩ : ∃ x : Nat, rd kl (i : Int) = (x : Int) := ⟨(rd kl (i : Int)).toNat, by omega⟩
          rw [hxe] at hx hxb
          have hx256 : x < 256 := by omega
          have hxr := xor8 x cc hx256 hcc
          have hxk : kl.getD i 0 = (x : Int) := by have := hxe; simpa [rd] using this
          rw [hxk, Int.toNat_natCast] at hpi
          have hfin : RefAt W1 PD (i + 1) ((wr.setCell ⟨W1.heap.size, i, none⟩ (.int .u8 (cc : Int))).setCell ⟨W1.heap.size, i, none⟩ (.int .u8 ((x ^^^ cc : Nat) : Int))) := by
            refine ⟨hbw1.setCell (Nat.le_refl _) _, ?_⟩
            have h2 := blk_set hset1 i (Value.int .u8 ((x ^^^ cc : Nat) : Int))
            rw [rowV_set, refrow_set HPL.out i h64 _ _ hpi] at h2
            exact h2
          have HFIN := Aside0.mk hfin
          have kk1 : (i : Int) < (n : Int) := by omega
          clear hbw hg hlen hpi hset1 hbw1 hxe hxk hfin
          go_wp2
          go_roundw
          case rel => exact ⟨i + 1, by omega, by go_num, HFIN⟩
          case measure => simp [intOf]; omega
        · have hk0 : kl.getD i 0 = 0 := by rw [List.getD_eq_getElem?_getD, List.getElem?_eq_none (by rw [← HNL.out]; omega)]; rfl
          rw [hk0] at hpi
          have hpi2 : PD.getD i 0 = (cc : Int) := by rw [hpi]; simp
          have hfin : RefAt W1 PD (i + 1) (wr.setCell ⟨W1.heap.size, i, none⟩ (.int .u8 (cc : Int))) := by
            refine ⟨hbw1, ?_⟩
            rw [refrow_set1 HPL.out i h64 _ hpi2] at hset1
            exact hset1
          have HFIN := Aside0.mk hfin
          have kk1 : ¬ (i : Int) < (n : Int) := by omega
          clear hbw hg hlen hpi hpi2 hk0 hset1 hbw1 hfin hci1 hfi1
          go_wp2
          go_roundw
          case rel => exact ⟨i + 1, by omega, by go_num, HFIN⟩
          case measure => simp [intOf]; omega
      · obtain rfl : i = 64 := by omega
        go_wp2
        go_ret
        obtain ⟨hbw, hg⟩ := HP.out
        have e : PD.take 64 ++ List.replicate (64 - 64) (0 : Int) = PD := by rw [Nat.sub_self, List.take_of_length_le (by rw [HPL.out]; exact Nat.le_refl _)]; simp
        rw [e] at hg
        exact ⟨_, rfl, R_of_row hg HB0.out.size HPL.out (by decide), below_step HB0.out hbw⟩
set_option maxRecDepth 100000 in
set_option maxHeartbeats 8000000 in
theorem rcode_any (A0 : Option Addr) (c0 : Nat) (l0 : List Int) (A1 : Option Addr) (c1 : Nat) (l1 : List Int) (W : World) (hr0 : Kd.C (Kd.int .u8) W A0 l0.length l0) (hc0 : l0.length ≤ c0) (hb0 : ∀ x ∈ l0, 0 ≤ x ∧ x ≤ 255) (hl0 : l0.length ≤ 1000000)
    (hr1 : Kd.C (Kd.int .u8) W A1 l1.length l1) (hc1 : l1.length ≤ c1) (hb1 : ∀ x ∈ l1, 0 ≤ x ∧ x ≤ 255) (hl1 : l1.length ≤ 900000) :
    Calls Tryd.prog 10 #[.slice A0 l0.length c0, .slice A1 l1.length c1] W fun e w' => ∃ v, e = .returned v ∧ Kd.R (Kd.int .u8) 5 w' W.heap.size (fun _ => True) v (codeL l0 l1) ∧ Below W.heap.size W w' := by
  have h92 : ∀ X, Below W.heap.size W X → Calls Tryd.prog 15 #[.slice A0 l0.length c0, .int .u8 92] X fun e w' => ∃ v, e = .returned v ∧ Kd.R (Kd.int .u8) 5 w' X.heap.size (fun _ => True) v (padK l0 92) ∧ Below X.heap.size X w' := fun X hX => rwith_any A0 c0 l0 92 (by decide) X (Kd.C_below hr0 hX) hc0 hb0 hl0
  have h54 : Calls Tryd.prog 15 #[.slice A0 l0.length c0, .int .u8 54] W fun e w' => ∃ v, e = .returned v ∧ Kd.R (Kd.int .u8) 5 w' W.heap.size (fun _ => True) v (padK l0 54) ∧ Below W.heap.size W w' := rwith_any A0 c0 l0 54 (by decide) W hr0 hc0 hb0 hl0
  have p92 := padK_len l0 92
  have p54 := padK_len l0 54
  have b92 := padK_bytes hb0 (c := 92) (by decide)
  have b54 := padK_bytes hb0 (c := 54) (by decide)
  obtain ⟨P, hP⟩ : ∃ P, P = padK l0 92 := ⟨_, rfl⟩
  obtain ⟨Q, hQ⟩ : ∃ Q, Q = padK l0 54 := ⟨_, rfl⟩
  have hcode : codeL l0 l1 = shaL (P ++ shaL (Q ++ l1)) := by rw [hP, hQ]; rfl
  rw [← hP] at p92 b92
  simp only [← hP] at h92
  rw [← hQ] at h54 p54 b54
  have H92 := Aside0.mk h92
  have H54 := Aside0.mk h54
  have P92 := Aside0.mk p92
  have P54 := Aside0.mk p54
  have B92 := Aside0.mk b92
  have B54 := Aside0.mk b54
  have HR1 := Aside0.mk hr1
  have HB1 := Aside0.mk hb1
  have HCODE := Aside0.mk hcode
  clear h92 h54 p92 p54 b92 b54 hP hQ hcode hr0 hb0 hr1 hb1
  go_enter Tryd.func10, Tryd.ntmps10
  go_wp2_with (go_at_call 15; ((with_reducible refine (H54.out).mono ?_)))
  rintro e w1 ⟨v1, rfl, hR1, hb1⟩
  obtain ⟨A5, c5, rfl⟩ := Kd.R_slice hR1
  have HRA := Aside0.mk hR1
  have HBA := Aside0.mk hb1
  clear hR1 hb1
  go_wp2_with (at_builtin; refine Kd.R_append_rows (Kd.int .u8) (w0 := W) W.heap.size rfl (.tmp 10) (.tmp 11) 24 5 (.int .u8 0) 1 rfl Tryd.underlying24 info5b rfl (by decide) (by omega) (.slice A5 Q.length c5) Q l1 _ _ _ (fun _ => True) (fun _ => False) rfl rfl HRA.out (Kd.C_below HR1.out HBA.out) (fun _ _ h => h) (fun _ h => h.elim) (fun _ _ => trivial) HBA.out HBA.out.size (by have := P54.out; omega) ?_)
  intro v2 w2 hR2 hb2 _ _
  obtain ⟨A6, c6, rfl, hl6, hC6⟩ := Kd.R_reads hR2
  have hq : (Q ++ l1).length ≤ 1000000 := by rw [List.length_append, P54.out]; omega
  have HB2 := Aside0.mk hb2
  have HC6 := Aside0.mk hC6
  have HQ := Aside0.mk hq
  clear hR2 hb2 hC6 hq HRA HBA
  go_wp2_with (go_at_call 15; ((with_reducible refine (H92.out _ HB2.out).mono ?_)))
  rintro e w3 ⟨v3, rfl, hR3, hb3⟩
  obtain ⟨A7, c7, rfl⟩ := Kd.R_slice hR3
  have hC63 := Kd.C_below HC6.out hb3
  have hsum := rsum_any A6 c6 (Q ++ l1) w3 hC63 hl6 HQ.out (bytes_app B54.out HB1.out)
  simp only [List.length_append] at hsum
  have HR3 := Aside0.mk hR3
  have HB3 := Aside0.mk (below_step HB2.out hb3)
  have HSUM := Aside0.mk hsum
  have HSZ := Aside0.mk HB2.out.size
  clear hR3 hb3 hC63 hsum HC6
  go_wp2_with (go_at_call 12; ((with_reducible refine (HSUM.out).mono ?_)))
  rintro e w4 ⟨v4, rfl, hR4, hb4⟩
  obtain ⟨A8, c8, rfl, hl8, hC8⟩ := Kd.R_reads hR4
  have e32 := shaL_len (Q ++ l1)
  rw [e32] at hC8 hl8 ⊢
  have HR34 := Aside0.mk (Kd.R_lower (Kd.R_below HR3.out hb4) HSZ.out)
  have HB4 := Aside0.mk (below_step HB3.out hb4)
  have HC8 := Aside0.mk hC8
  have E32 := Aside0.mk e32
  clear hR4 hb4 hC8 e32 HR3 HSUM
  go_wp2_with (at_builtin; refine Kd.R_append_rows (Kd.int .u8) (w0 := W) W.heap.size rfl (.tmp 17) (.tmp 18) 24 5 (.int .u8 0) 1 rfl Tryd.underlying24 info5b rfl (by decide) (by omega) (.slice A7 P.length c7) P (shaL (Q ++ l1)) _ _ _ (fun _ => True) (fun _ => False) rfl rfl HR34.out HC8.out (fun _ _ h => h) (fun _ h => h.elim) (fun _ _ => trivial) HB4.out HB4.out.size (by have := P92.out; have := E32.out; omega) ?_)
  intro v5 w5 hR5 hb5 _ _
  obtain ⟨A9, c9, rfl, hl9, hC9⟩ := Kd.R_reads hR5
  have hsum2 := rsum_any A9 c9 (P ++ shaL (Q ++ l1)) w5 hC9 hl9 (by rw [List.length_append, P92.out, E32.out]; decide) (bytes_app B92.out (shaL_bytes _))
  simp only [List.length_append] at hsum2
  have HSUM2 := Aside0.mk hsum2
  have HB5 := Aside0.mk hb5
  clear hR5 hb5 hC9 hsum2
  go_wp2_with (go_at_call 12; ((with_reducible refine (HSUM2.out).mono ?_)))
  rintro e w6 ⟨v6, rfl, hR6, hb6⟩
  have HV := Aside0.mk (show Kd.R (Kd.int .u8) 5 w6 W.heap.size (fun _ => True) v6 (codeL l0 l1) by rw [HCODE.out]; exact Kd.R_lower hR6 HB5.out.size)
  have HB6 := Aside0.mk (below_step HB5.out hb6)
  clear hR6 hb6
  go_wp2
  go_ret
  exact ⟨_, rfl, HV.out, HB6.out⟩
end Go.Proofs.YtlddionmkblioaaDoor.E

