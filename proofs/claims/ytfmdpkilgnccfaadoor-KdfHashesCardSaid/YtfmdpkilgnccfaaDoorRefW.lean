/- The document's words, roots, Get, Put, Pad tell what the program's do: plain. -/
import Derived.Test.YtfmdpkilgnccfaaDoorSha5
import Derived.Test.YtfmdpkilgnccfaaDoorF51
import Derived.Test.YtfmdpkilgnccfaaDoorF52
import Derived.Test.YtfmdpkilgnccfaaDoorF25
namespace Go.Proofs.YtfmdpkilgnccfaaDoor.E
open Go.RowKit Go.Proofs.YtfmdpkilgnccfaaDoorW.PrintWords Go.Proofs.YtfmdpkilgnccfaaDoorW.PrintLast Go.Proofs.YtfmdpkilgnccfaaDoorW.PrintMore Go.Proofs.YtfmdpkilgnccfaaDoor.Pr
set_option linter.unusedVariables false
set_option linter.unusedSimpArgs false
theorem shr_u32 (x n : Nat) (h : n ≤ 32) : shr .u32 (x : Int) (n : Int) = ((x >>> n : Nat) : Int) := by
  unfold shr
  have : min ((n : Int)).toNat IntKind.u32.bits = n := by rw [Int.toNat_natCast]; exact Nat.min_eq_left h
  rw [this, Nat.shiftRight_eq_div_pow]; simp
theorem shl_u32 (x n : Nat) (h : n ≤ 32) : shl .u32 (x : Int) (n : Int) = (((x <<< n) % 4294967296 : Nat) : Int) := by
  unfold shl
  have : min ((n : Int)).toNat IntKind.u32.bits = n := by rw [Int.toNat_natCast]; exact Nat.min_eq_left h
  rw [this, IntKind.wrap_u32, Nat.shiftLeft_eq]; simp
theorem ref_rot (x n : Nat) (hx : x < 4294967296) (hn : n ≤ 32) : wicketmanref02_rot.f (x : Int) (n : Int) = some ((rotr x n : Nat) : Int) := by
  unfold wicketmanref02_rot.f
  have e1 : IntKind.u64.wrap (32 - (n : Int)) = ((32 - n : Nat) : Int) := by rw [IntKind.wrap_u64]; omega
  rw [e1, if_pos (by omega), if_pos (by omega), shr_u32 x n hn, shl_u32 x (32 - n) (by omega), or32 _ _ (shr_lt n hx) (Nat.mod_lt _ (by decide)), Nat.or_comm]
  rfl
theorem ref_get (l : List Int) (hl : l.length ≤ 8) (hb : ∀ x ∈ l, 0 ≤ x ∧ x ≤ 255) : ∀ (d p n k : Nat), p + d = l.length → n + 1 ≤ 256 ^ p → wicketmanref01_Get.l0 (k + d + 1) l (n : Int) (p : Int) = some (((l.drop p).foldl (fun n c => 256 * n + c.toNat) n : Nat) : Int)
  | 0, p, n, k, hp, hn => by
    simp only [wicketmanref01_Get.l0]
    rw [if_neg (by omega), List.drop_eq_nil_of_le (by omega)]
    rfl
  | d + 1, p, n, k, hp, hn => by
    obtain ⟨K, hK⟩ : ∃ K, K = k + d + 1 := ⟨_, rfl⟩
    rw [show k + (d + 1) + 1 = K + 1 by omega]
    simp only [wicketmanref01_Get.l0]
    rw [hK]
    have hpl : p < l.length := by omega
    have hx := hb _ (rd_mem hpl)
    obtain ⟨x, hxx⟩ : ∃ x : Nat, rd l (p : Int) = (x : Int) := ⟨(rd l (p : Int)).toNat, by omega⟩
    have hxl : x ≤ 255 := by omega
    have h8 : 256 ^ (p + 1) ≤ 256 ^ 8 := Nat.pow_le_pow_right (by omega) (by omega)
    have hs : 256 ^ (p + 1) = 256 ^ p * 256 := Nat.pow_succ _ _
    have hn2 : 256 * n + x + 1 ≤ 256 ^ (p + 1) := by omega
    have e1 : IntKind.u64.wrap (256 * (n : Int)) = ((256 * n : Nat) : Int) := by rw [IntKind.wrap_u64]; omega
    have e2 : IntKind.u64.wrap ((x : Nat) : Int) = ((x : Nat) : Int) := by rw [IntKind.wrap_u64]; omega
    have e3 : IntKind.u64.wrap (((256 * n : Nat) : Int) + (x : Int)) = ((256 * n + x : Nat) : Int) := by rw [IntKind.wrap_u64]; omega
    rw [if_pos (by omega), if_pos (by omega), hxx, e1, e2, e3, w64_succ p (by omega), ref_get l hl hb d (p + 1) (256 * n + x) k (by omega) hn2]
    have hdrop : l.drop p = (x : Int) :: l.drop (p + 1) := by
      rw [List.drop_eq_getElem_cons hpl]
      congr 1
      rw [← hxx]
      simp [rd, List.getD_eq_getElem?_getD, hpl]
    rw [hdrop, List.foldl_cons, Int.toNat_natCast]
theorem ref_get4 (l : List Int) (hl : l.length ≤ 8) (hb : ∀ x ∈ l, 0 ≤ x ∧ x ≤ 255) (k : Nat) (hk : 9 ≤ k) : wicketmanref01_Get.f k l = some ((valN l : Nat) : Int) := by
  unfold wicketmanref01_Get.f
  have e1 : mx 0 (wrap64 ((l.length : Int) - 8)) = ((0 : Nat) : Int) := by
    have : wrap64 ((l.length : Int) - 8) = (l.length : Int) - 8 := by unfold wrap64; omega
    rw [this]; unfold mx; split <;> omega
  have := ref_get l hl hb l.length 0 0 (k - l.length - 1) (by omega) (by decide)
  rw [show k - l.length - 1 + l.length + 1 = k by omega, List.drop_zero] at this
  rw [e1]
  exact this
def intsN (l : List Nat) : List Int := l.map fun (n : Nat) => (n : Int)
theorem intsN_len (l : List Nat) : (intsN l).length = l.length := List.length_map ..
theorem rd_ints (l : List Nat) (j : Nat) : rd (intsN l) (j : Int) = ((l.getD j 0 : Nat) : Int) := by
  simp only [rd, intsN, Int.toNat_natCast, List.getD_eq_getElem?_getD, List.getElem?_map]
  cases l[j]? <;> rfl
theorem take_getD {l : List Nat} {t j : Nat} (h : j < t) : (l.take t).getD j 0 = l.getD j 0 := by
  simp [List.getD_eq_getElem?_getD, List.getElem?_take, h]
theorem ints_take_succ {W : List Nat} {t : Nat} (h : t < W.length) : intsN (W.take t) ++ [((W.getD t 0 : Nat) : Int)] = intsN (W.take (t + 1)) := by
  rw [List.take_succ_eq_append_getElem h, intsN, intsN, List.map_append]
  simp only [List.map_cons, List.map_nil, List.getD_eq_getElem?_getD, List.getElem?_eq_getElem h, Option.getD_some]
theorem ref_words1 (W : List Nat) (hl : W.length = 64) (hlt : ∀ t, W.getD t 0 < 4294967296) (hW : ∀ t, 16 ≤ t → t < 64 → W.getD t 0 = (lS1 (W.getD (t - 2) 0) + (W.getD (t - 7) 0 + W.getD (t - 16) 0 + lS0 (W.getD (t - 15) 0))) % 4294967296) :
    ∀ (d t k : Nat), t + d = 64 → 16 ≤ t → wicketmanref02_words.l1 (k + d + 1) (intsN (W.take t)) (t : Int) = some (intsN W)
  | 0, t, k, ht, h16 => by
    obtain rfl : t = 64 := by omega
    simp only [wicketmanref02_words.l1]
    rw [if_neg (by omega), List.take_of_length_le (by omega)]
  | d + 1, t, k, ht, h16 => by
    obtain ⟨K, hK⟩ : ∃ K, K = k + d + 1 := ⟨_, rfl⟩
    rw [show k + (d + 1) + 1 = K + 1 by omega]
    simp only [wicketmanref02_words.l1]
    rw [hK]
    have e15 : wrap64 ((t : Int) - 15) = ((t - 15 : Nat) : Int) := by unfold wrap64; omega
    have e2 : wrap64 ((t : Int) - 2) = ((t - 2 : Nat) : Int) := by unfold wrap64; omega
    have e7 : wrap64 ((t : Int) - 7) = ((t - 7 : Nat) : Int) := by unfold wrap64; omega
    have e16 : wrap64 ((t : Int) - 16) = ((t - 16 : Nat) : Int) := by unfold wrap64; omega
    have hlen : (intsN (W.take t)).length = t := by rw [intsN_len, List.length_take]; omega
    rw [e15, e2, e7, e16, hlen, rd_ints, rd_ints, rd_ints, rd_ints, take_getD (show t - 15 < t by omega), take_getD (show t - 2 < t by omega), take_getD (show t - 7 < t by omega), take_getD (show t - 16 < t by omega)]
    have b15 := hlt (t - 15)
    have b2 := hlt (t - 2)
    have hw := hW t h16 (by omega)
    have hsucc := ints_take_succ (show t < W.length by omega)
    have ih := ref_words1 W hl hlt hW d (t + 1) k (by omega) (by omega)
    generalize W.getD (t - 15) 0 = x15 at *
    generalize W.getD (t - 2) 0 = x2 at *
    generalize W.getD (t - 7) 0 = x7 at *
    generalize W.getD (t - 16) 0 = x16 at *
    have r7 : wicketmanref02_rot.f (x15 : Int) 7 = some ((rotr x15 7 : Nat) : Int) := ref_rot x15 7 b15 (by decide)
    have r18 : wicketmanref02_rot.f (x15 : Int) 18 = some ((rotr x15 18 : Nat) : Int) := ref_rot x15 18 b15 (by decide)
    have r17 : wicketmanref02_rot.f (x2 : Int) 17 = some ((rotr x2 17 : Nat) : Int) := ref_rot x2 17 b2 (by decide)
    have r19 : wicketmanref02_rot.f (x2 : Int) 19 = some ((rotr x2 19 : Nat) : Int) := ref_rot x2 19 b2 (by decide)
    rw [if_pos (by omega), if_pos (by omega), if_pos (by omega), r7, Option.bind_some, r18, Option.bind_some, if_pos (by omega), if_pos (by omega), r17, Option.bind_some, r19, Option.bind_some, if_pos (by omega), if_pos (by omega), if_pos (by omega), if_pos (by omega), if_pos (by omega)]
    have q7 := rotr_lt 7 b15
    have q18 := rotr_lt 18 b15
    have q17 := rotr_lt 17 b2
    have q19 := rotr_lt 19 b2
    have v1 : bits .xor .u32 (bits .xor .u32 ((rotr x2 17 : Nat) : Int) ((rotr x2 19 : Nat) : Int)) ((x2 : Int) / 1024) = ((lS1 x2 : Nat) : Int) := by
      rw [xor32 _ _ q17 q19, shr_i10 x2, xor32 _ _ (xor_lt q17 q19) (shr_lt 10 b2)]; rfl
    have v0 : bits .xor .u32 (bits .xor .u32 ((rotr x15 7 : Nat) : Int) ((rotr x15 18 : Nat) : Int)) ((x15 : Int) / 8) = ((lS0 x15 : Nat) : Int) := by
      rw [xor32 _ _ q7 q18, shr_i3 x15, xor32 _ _ (xor_lt q7 q18) (shr_lt 3 b15)]; rfl
    rw [v1, v0]
    have e : (((((lS1 x2 : Nat) : Int) + (x7 : Int)) % 4294967296 + ((lS0 x15 : Nat) : Int)) % 4294967296 + (x16 : Int)) % 4294967296 = ((W.getD t 0 : Nat) : Int) := by rw [hw]; omega
    rw [e, hsucc, w64_succ t (by omega)]
    exact ih
theorem ref_words0 (b : List Int) (hb : ∀ x ∈ b, 0 ≤ x ∧ x ≤ 255) (hbl : b.length = 64) (W : List Nat) (hl : W.length = 64) (h1 : ∀ k, 49 ≤ k → wicketmanref02_words.l1 k (intsN (W.take 16)) 16 = some (intsN W)) (hf : ∀ t, t < 16 → W.getD t 0 = valN ((b.drop (4 * t)).take 4)) :
    ∀ (d i k : Nat), i + d = 16 → wicketmanref02_words.l0 (k + d + 60) b (intsN (W.take i)) ((4 * i : Nat) : Int) = some (intsN W)
  | 0, i, k, hi => by
    obtain rfl : i = 16 := by omega
    obtain ⟨K, hK⟩ : ∃ K, K = k + 59 := ⟨_, rfl⟩
    rw [show k + 0 + 60 = K + 1 by omega]
    simp only [wicketmanref02_words.l0]
    rw [if_neg (by omega), h1 _ (by omega)]
  | d + 1, i, k, hi => by
    obtain ⟨K, hK⟩ : ∃ K, K = k + d + 60 := ⟨_, rfl⟩
    rw [show k + (d + 1) + 60 = K + 1 by omega]
    simp only [wicketmanref02_words.l0]
    have e4 : wrap64 (((4 * i : Nat) : Int) + 4) = ((4 * (i + 1) : Nat) : Int) := by unfold wrap64; omega
    have ed : (b.take (4 * (i + 1))).drop (4 * i) = (b.drop (4 * i)).take 4 := by rw [List.drop_take, show 4 * (i + 1) - 4 * i = 4 by omega]
    have hg := ref_get4 ((b.drop (4 * i)).take 4) (by rw [List.length_take]; omega) (fun x hx => hb x (List.mem_of_mem_drop (List.mem_of_mem_take hx))) K (by omega)
    have hv := hf i (by omega)
    have hlt : valN ((b.drop (4 * i)).take 4) < 4294967296 := by
      have := valN_lt ((b.drop (4 * i)).take 4) (fun x hx => hb x (List.mem_of_mem_drop (List.mem_of_mem_take hx)))
      have h2 : ((b.drop (4 * i)).take 4).length ≤ 4 := by rw [List.length_take]; omega
      have h3 : 256 ^ ((b.drop (4 * i)).take 4).length ≤ 256 ^ 4 := Nat.pow_le_pow_right (by omega) h2
      omega
    have hlen : (intsN (W.take i)).length = i := by rw [intsN_len, List.length_take]; omega
    have hsucc := ints_take_succ (show i < W.length by omega)
    rw [hv] at hsucc
    have em : ((valN ((b.drop (4 * i)).take 4) : Nat) : Int) % 4294967296 = ((valN ((b.drop (4 * i)).take 4) : Nat) : Int) := by omega
    rw [if_pos (by omega), if_pos (by omega), e4, if_pos (by omega), if_pos (by omega), Int.toNat_natCast, Int.toNat_natCast, ed, hg, Option.bind_some, hlen, if_pos (by omega), em, hsucc, hK]
    exact ref_words0 b hb hbl W hl h1 hf d (i + 1) k (by omega)
theorem ref_words (b : List Int) (hb : ∀ x ∈ b, 0 ≤ x ∧ x ≤ 255) (hbl : b.length = 64) : wicketmanref02_words.f 100 b = some (intsN (wordsN b)) := by
  unfold wicketmanref02_words.f
  have hl := wordsN_len b
  have h1 : ∀ k, 49 ≤ k → wicketmanref02_words.l1 k (intsN ((wordsN b).take 16)) 16 = some (intsN (wordsN b)) := fun k hk => by
    have := ref_words1 (wordsN b) hl (wordsN_lt b hb) (wordsN_at b) 48 16 (k - 49) (by decide) (by decide)
    rwa [show k - 49 + 48 + 1 = k by omega] at this
  exact ref_words0 b hb hbl (wordsN b) hl h1 (wordsN_first b) 16 0 24 (by decide)
theorem ref_roots : wicketmanref02_roots.f = some (intsN rootsN) := by kernel_rfl
theorem chX (e f g : Nat) (he : e < 4294967296) : (e &&& f) ^^^ ((4294967295 ^^^ e) &&& g) = chN e f g := by
  unfold chN
  apply Nat.eq_of_testBit_eq
  intro i
  simp only [Nat.testBit_xor, Nat.testBit_and, Nat.testBit_or]
  have hm : (4294967295 : Nat).testBit i = decide (i < 32) := Nat.testBit_two_pow_sub_one 32 i
  rw [hm]
  by_cases h : i < 32
  · simp only [h, decide_true]
    cases e.testBit i <;> cases f.testBit i <;> cases g.testBit i <;> rfl
  · have he2 : e.testBit i = false := Nat.testBit_lt_two_pow (Nat.lt_of_lt_of_le he (Nat.pow_le_pow_right (n := 2) (by decide) (show 32 ≤ i by omega)))
    rw [he2]
    simp [h]
theorem majX (a b c : Nat) : (a &&& b) ^^^ (a &&& c) ^^^ (b &&& c) = majN a b c := by
  unfold majN
  apply Nat.eq_of_testBit_eq
  intro i
  simp only [Nat.testBit_xor, Nat.testBit_and, Nat.testBit_or]
  cases a.testBit i <;> cases b.testBit i <;> cases c.testBit i <;> rfl
def pf : Nat → Nat
  | 0 => 1
  | i + 1 => pf i + i + 2
theorem rp1 (n : Nat) (acc : List Int) (i : Nat) (hi : i ≤ 8) (ha : acc.length < 1000) : ∀ (e j m k : Nat), j + e = i → m < 18446744073709551616 →
    wicketmanref01_Put.l1 (k + e + 1) (n : Int) acc (i : Int) (m : Int) (j : Int) = wicketmanref01_Put.l0 k (n : Int) (acc ++ [((m / 256 ^ e % 256 : Nat) : Int)]) (wrap64 ((i : Int) - 1))
  | 0, j, m, k, hj, hm => by
    simp only [wicketmanref01_Put.l1]
    have e1 : Int.tmod (m : Int) 256 % 256 = ((m / 256 ^ 0 % 256 : Nat) : Int) := by rw [Int.tmod_eq_emod_of_nonneg (by omega)]; simp
    rw [if_neg (by omega), if_pos (by omega), e1]
  | e + 1, j, m, k, hj, hm => by
    obtain ⟨K, hK⟩ : ∃ K, K = k + e + 1 := ⟨_, rfl⟩
    rw [show k + (e + 1) + 1 = K + 1 by omega]
    simp only [wicketmanref01_Put.l1]
    have e1 : Int.tdiv (m : Int) 256 = ((m / 256 : Nat) : Int) := by rw [Int.tdiv_eq_ediv_of_nonneg (by omega)]; omega
    have e2 : IntKind.u64.wrap ((m / 256 : Nat) : Int) = ((m / 256 : Nat) : Int) := by rw [IntKind.wrap_u64]; omega
    rw [hK, if_pos (by omega), e1, e2, w64_succ j (by omega), rp1 n acc i hi ha e (j + 1) (m / 256) k (by omega) (by omega), Nat.div_div_eq_div_mul, Nat.pow_succ, Nat.mul_comm 256]
theorem rp0 (n : Nat) (hn : n < 18446744073709551616) : ∀ (i : Nat) (acc : List Int) (k : Nat), i ≤ 8 → acc.length + i < 1000 → wicketmanref01_Put.l0 (k + pf i) (n : Int) acc ((i : Int) - 1) = some (acc ++ beN n i)
  | 0, acc, k, _, _ => by
    show wicketmanref01_Put.l0 (k + 1) (n : Int) acc (((0 : Nat) : Int) - 1) = _
    simp only [wicketmanref01_Put.l0]
    rw [if_neg (by decide)]
    simp [beN]
  | i + 1, acc, k, hi, ha => by
    obtain ⟨K, hK⟩ : ∃ K, K = (k + pf i) + i + 1 := ⟨_, rfl⟩
    rw [show k + pf (i + 1) = K + 1 by simp only [pf]; omega]
    simp only [wicketmanref01_Put.l0]
    have e1 : ((i + 1 : Nat) : Int) - 1 = (i : Int) := by omega
    have e2 : wrap64 ((i : Int) - 1) = (i : Int) - 1 := by unfold wrap64; omega
    have h1 := rp1 n acc i (by omega) (by omega) i 0 n (k + pf i) (by omega) hn
    rw [e1, if_pos (by omega), hK]
    rw [show ((0 : Nat) : Int) = 0 from rfl] at h1
    rw [h1, e2, rp0 n hn i _ k (by omega) (by rw [List.length_append, List.length_singleton]; omega), List.append_assoc]
    rfl
theorem ref_put4 (n : Nat) (hn : n < 18446744073709551616) (k : Nat) (hk : 50 ≤ k) : wicketmanref01_Put.f k (n : Int) 4 = some (beN n 4) := by
  obtain ⟨j, rfl⟩ : ∃ j, k = j + pf 4 := ⟨k - pf 4, by have : pf 4 = 15 := rfl; omega⟩
  have := rp0 n hn 4 [] j (by decide) (by decide)
  unfold wicketmanref01_Put.f
  exact this
theorem ref_put8 (n : Nat) (hn : n < 18446744073709551616) (k : Nat) (hk : 50 ≤ k) : wicketmanref01_Put.f k (n : Int) 8 = some (beN n 8) := by
  obtain ⟨j, rfl⟩ : ∃ j, k = j + pf 8 := ⟨k - pf 8, by have : pf 8 = 45 := rfl; omega⟩
  have := rp0 n hn 8 [] j (by decide) (by decide)
  unfold wicketmanref01_Put.f
  exact this
theorem ref_pad0 (n : Nat) (hn : n < 18446744073709551616) : ∀ (d z k : Nat), z + d = (119 - n % 64) % 64 → wicketmanref02_Pad.l0 (k + d + 51) (n : Int) (128 :: List.replicate z 0) = some (128 :: (List.replicate ((119 - n % 64) % 64) 0 ++ beN (8 * n) 8))
  | 0, z, k, hz => by
    obtain ⟨K, hK⟩ : ∃ K, K = k + 50 := ⟨_, rfl⟩
    rw [show k + 0 + 51 = K + 1 by omega]
    simp only [wicketmanref02_Pad.l0]
    have hlen : (128 :: List.replicate z (0 : Int)).length = z + 1 := by simp
    have e1 : Int.tmod (IntKind.u64.wrap ((IntKind.u64.wrap ((Int.tmod (n : Int) 64) + (IntKind.u64.wrap (((z + 1 : Nat) : Int))))) + 8)) 64 = 0 := by
      rw [Int.tmod_eq_emod_of_nonneg (a := (n : Int)) (by omega), IntKind.wrap_u64, IntKind.wrap_u64, IntKind.wrap_u64, Int.tmod_eq_emod_of_nonneg (by omega)]; omega
    have e2 : IntKind.u64.wrap (8 * (n : Int)) = (((8 * n) % 18446744073709551616 : Nat) : Int) := by rw [IntKind.wrap_u64]; omega
    have e3 : beN ((8 * n) % 18446744073709551616) 8 = beN (8 * n) 8 := beN_mod (8 * n) 8 8 (Nat.le_refl _)
    rw [hlen, if_pos e1, e2, ref_put8 _ (Nat.mod_lt _ (by decide)) K (by omega), Option.bind_some, beN_length, if_pos (by omega), e3]
    obtain rfl : z = (119 - n % 64) % 64 := by omega
    rfl
  | d + 1, z, k, hz => by
    obtain ⟨K, hK⟩ : ∃ K, K = k + d + 51 := ⟨_, rfl⟩
    rw [show k + (d + 1) + 51 = K + 1 by omega]
    simp only [wicketmanref02_Pad.l0]
    have hlen : (128 :: List.replicate z (0 : Int)).length = z + 1 := by simp
    have e1 : ¬ Int.tmod (IntKind.u64.wrap ((IntKind.u64.wrap ((Int.tmod (n : Int) 64) + (IntKind.u64.wrap (((z + 1 : Nat) : Int))))) + 8)) 64 = 0 := by
      rw [Int.tmod_eq_emod_of_nonneg (a := (n : Int)) (by omega), IntKind.wrap_u64, IntKind.wrap_u64, IntKind.wrap_u64, Int.tmod_eq_emod_of_nonneg (by omega)]; omega
    have e2 : (128 :: List.replicate z (0 : Int)) ++ [0] = 128 :: List.replicate (z + 1) 0 := by rw [List.cons_append, ← List.replicate_succ']
    rw [hlen, if_neg e1, if_pos (by omega), e2, hK]
    exact ref_pad0 n hn d (z + 1) k (by omega)
theorem ref_pad (n : Nat) (hn : n < 18446744073709551616) (k : Nat) (hk : 120 ≤ k) : wicketmanref02_Pad.f k (n : Int) = some (padL n) := by
  unfold wicketmanref02_Pad.f
  have := ref_pad0 n hn ((119 - n % 64) % 64) 0 (k - 51 - (119 - n % 64) % 64) (by omega)
  rw [show k - 51 - (119 - n % 64) % 64 + (119 - n % 64) % 64 + 51 = k by omega] at this
  exact this
end Go.Proofs.YtfmdpkilgnccfaaDoor.E
