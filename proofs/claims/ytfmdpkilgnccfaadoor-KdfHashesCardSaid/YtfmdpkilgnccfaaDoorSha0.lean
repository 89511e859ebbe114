/- The sum that nobody turns back, in plain numbers. -/
import Derived.Test.YtfmdpkilgnccfaaDoorNum
namespace Go.Proofs.YtfmdpkilgnccfaaDoor.E
def rotr (x n : Nat) : Nat := (x <<< (32 - n)) % 4294967296 ||| x >>> n
def bS1 (e : Nat) : Nat := rotr e 6 ^^^ rotr e 11 ^^^ rotr e 25
def bS0 (a : Nat) : Nat := rotr a 2 ^^^ rotr a 13 ^^^ rotr a 22
def lS0 (x : Nat) : Nat := rotr x 7 ^^^ rotr x 18 ^^^ x >>> 3
def lS1 (x : Nat) : Nat := rotr x 17 ^^^ rotr x 19 ^^^ x >>> 10
def chN (e f g : Nat) : Nat := e &&& f ||| (4294967295 ^^^ e) &&& g
def majN (a b c : Nat) : Nat := a &&& b ||| a &&& c ||| b &&& c
structure H8 where
  a : Nat
  b : Nat
  c : Nat
  d : Nat
  e : Nat
  f : Nat
  g : Nat
  h : Nat
def H8.ok (s : H8) : Prop := s.a < 4294967296 ∧ s.b < 4294967296 ∧ s.c < 4294967296 ∧ s.d < 4294967296 ∧ s.e < 4294967296 ∧ s.f < 4294967296 ∧ s.g < 4294967296 ∧ s.h < 4294967296
def t1N (s : H8) (w k : Nat) : Nat := (s.h + w + k + bS1 s.e + chN s.e s.f s.g) % 4294967296
def t2N (s : H8) : Nat := (bS0 s.a + majN s.a s.b s.c) % 4294967296
def rndN (s : H8) (w k : Nat) : H8 := ⟨(t1N s w k + t2N s) % 4294967296, s.a, s.b, s.c, (s.d + t1N s w k) % 4294967296, s.e, s.f, s.g⟩
def rootsN : List Nat := [0x428a2f98, 0x71374491, 0xb5c0fbcf, 0xe9b5dba5, 0x3956c25b, 0x59f111f1, 0x923f82a4, 0xab1c5ed5, 0xd807aa98, 0x12835b01, 0x243185be, 0x550c7dc3, 0x72be5d74, 0x80deb1fe, 0x9bdc06a7, 0xc19bf174,
  0xe49b69c1, 0xefbe4786, 0x0fc19dc6, 0x240ca1cc, 0x2de92c6f, 0x4a7484aa, 0x5cb0a9dc, 0x76f988da, 0x983e5152, 0xa831c66d, 0xb00327c8, 0xbf597fc7, 0xc6e00bf3, 0xd5a79147, 0x06ca6351, 0x14292967,
  0x27b70a85, 0x2e1b2138, 0x4d2c6dfc, 0x53380d13, 0x650a7354, 0x766a0abb, 0x81c2c92e, 0x92722c85, 0xa2bfe8a1, 0xa81a664b, 0xc24b8b70, 0xc76c51a3, 0xd192e819, 0xd6990624, 0xf40e3585, 0x106aa070,
  0x19a4c116, 0x1e376c08, 0x2748774c, 0x34b0bcb5, 0x391c0cb3, 0x4ed8aa4a, 0x5b9cca4f, 0x682e6ff3, 0x748f82ee, 0x78a5636f, 0x84c87814, 0x8cc70208, 0x90befffa, 0xa4506ceb, 0xbef9a3f7, 0xc67178f2]
theorem rootsN_len : rootsN.length = 64 := rfl
theorem rootsN_lt : ∀ k ∈ rootsN, k < 4294967296 := by decide
def wextN : Nat → List Nat → List Nat
  | 0, l => l
  | k + 1, l => wextN k (l ++ [(lS1 (l.getD (l.length - 2) 0) + (l.getD (l.length - 7) 0 + l.getD (l.length - 16) 0 + lS0 (l.getD (l.length - 15) 0))) % 4294967296])
def first16 (b : List Int) : List Nat := (List.range 16).map fun i => valN ((b.drop (4 * i)).take 4)
def wordsN (b : List Int) : List Nat := wextN 48 (first16 b)
def stN (W : List Nat) (s : H8) : Nat → H8
  | 0 => s
  | t + 1 => rndN (stN W s t) (W.getD t 0) (rootsN.getD t 0)
def addN (s h : H8) : H8 := ⟨(s.a + h.a) % 4294967296, (s.b + h.b) % 4294967296, (s.c + h.c) % 4294967296, (s.d + h.d) % 4294967296, (s.e + h.e) % 4294967296, (s.f + h.f) % 4294967296, (s.g + h.g) % 4294967296, (s.h + h.h) % 4294967296⟩
def blockN (h : H8) (b : List Int) : H8 := addN (stN (wordsN b) h 64) h
/-! bounds -/
theorem xor_lt {a b : Nat} (ha : a < 4294967296) (hb : b < 4294967296) : a ^^^ b < 4294967296 := Nat.xor_lt_two_pow (n := 32) ha hb
theorem or_lt {a b : Nat} (ha : a < 4294967296) (hb : b < 4294967296) : a ||| b < 4294967296 := Nat.or_lt_two_pow (n := 32) ha hb
theorem and_lt {a b : Nat} (ha : a < 4294967296) : a &&& b < 4294967296 := Nat.lt_of_le_of_lt Nat.and_le_left ha
theorem shr_lt {a : Nat} (n : Nat) (ha : a < 4294967296) : a >>> n < 4294967296 := Nat.lt_of_le_of_lt (Nat.shiftRight_le a n) ha
theorem rotr_lt {x : Nat} (n : Nat) (hx : x < 4294967296) : rotr x n < 4294967296 := or_lt (Nat.mod_lt _ (by decide)) (shr_lt n hx)
theorem bS1_lt {x : Nat} (h : x < 4294967296) : bS1 x < 4294967296 := xor_lt (xor_lt (rotr_lt _ h) (rotr_lt _ h)) (rotr_lt _ h)
theorem bS0_lt {x : Nat} (h : x < 4294967296) : bS0 x < 4294967296 := xor_lt (xor_lt (rotr_lt _ h) (rotr_lt _ h)) (rotr_lt _ h)
theorem lS1_lt {x : Nat} (h : x < 4294967296) : lS1 x < 4294967296 := xor_lt (xor_lt (rotr_lt _ h) (rotr_lt _ h)) (shr_lt _ h)
theorem lS0_lt {x : Nat} (h : x < 4294967296) : lS0 x < 4294967296 := xor_lt (xor_lt (rotr_lt _ h) (rotr_lt _ h)) (shr_lt _ h)
theorem chN_lt {e f g : Nat} (he : e < 4294967296) : chN e f g < 4294967296 := or_lt (and_lt he) (and_lt (xor_lt (by decide) he))
theorem majN_lt {a b c : Nat} (ha : a < 4294967296) (hb : b < 4294967296) : majN a b c < 4294967296 := or_lt (or_lt (and_lt ha) (and_lt ha)) (and_lt hb)
theorem rndN_ok {s : H8} (h : s.ok) (w k : Nat) : (rndN s w k).ok := ⟨Nat.mod_lt _ (by decide), h.1, h.2.1, h.2.2.1, Nat.mod_lt _ (by decide), h.2.2.2.2.1, h.2.2.2.2.2.1, h.2.2.2.2.2.2.1⟩
theorem stN_ok {s : H8} (W : List Nat) (h : s.ok) : ∀ t, (stN W s t).ok
  | 0 => h
  | t + 1 => rndN_ok (stN_ok W h t) _ _
theorem addN_ok (s h : H8) : (addN s h).ok := ⟨Nat.mod_lt _ (by decide), Nat.mod_lt _ (by decide), Nat.mod_lt _ (by decide), Nat.mod_lt _ (by decide), Nat.mod_lt _ (by decide), Nat.mod_lt _ (by decide), Nat.mod_lt _ (by decide), Nat.mod_lt _ (by decide)⟩
theorem wextN_len : ∀ (k : Nat) (l : List Nat), (wextN k l).length = l.length + k
  | 0, l => rfl
  | k + 1, l => by rw [wextN, wextN_len k]; simp; omega
theorem wextN_pre : ∀ (k : Nat) (l : List Nat) (i : Nat), i < l.length → (wextN k l).getD i 0 = l.getD i 0
  | 0, l, i, h => rfl
  | k + 1, l, i, h => by
    rw [wextN, wextN_pre k _ i (by simp; omega)]
    simp [List.getD_eq_getElem?_getD, List.getElem?_append_left h]
theorem wextN_at : ∀ (k : Nat) (l : List Nat) (t : Nat), 16 ≤ l.length → l.length ≤ t → t < l.length + k → (wextN k l).getD t 0 = (lS1 ((wextN k l).getD (t - 2) 0) + ((wextN k l).getD (t - 7) 0 + (wextN k l).getD (t - 16) 0 + lS0 ((wextN k l).getD (t - 15) 0))) % 4294967296
  | 0, l, t, h, h1, h2 => by omega
  | k + 1, l, t, h, h1, h2 => by
    by_cases ht : t = l.length
    · subst ht
      have e : ∀ i, i < l.length → (wextN (k + 1) l).getD i 0 = l.getD i 0 := fun i hi => wextN_pre (k + 1) l i hi
      rw [e (l.length - 2) (by omega), e (l.length - 7) (by omega), e (l.length - 16) (by omega), e (l.length - 15) (by omega), wextN, wextN_pre k _ l.length (by simp)]
      simp [List.getD_eq_getElem?_getD]
    · rw [wextN]
      exact wextN_at k _ t (by simp; omega) (by simp; omega) (by simp; omega)
theorem first16_len (b : List Int) : (first16 b).length = 16 := by simp [first16]
theorem wordsN_len (b : List Int) : (wordsN b).length = 64 := by rw [wordsN, wextN_len, first16_len]
theorem wordsN_first (b : List Int) (t : Nat) (h : t < 16) : (wordsN b).getD t 0 = valN ((b.drop (4 * t)).take 4) := by
  rw [wordsN, wextN_pre 48 _ t (by rw [first16_len]; exact h)]
  simp [first16, List.getD_eq_getElem?_getD, h]
theorem wordsN_at (b : List Int) (t : Nat) (h : 16 ≤ t) (h2 : t < 64) : (wordsN b).getD t 0 = (lS1 ((wordsN b).getD (t - 2) 0) + ((wordsN b).getD (t - 7) 0 + (wordsN b).getD (t - 16) 0 + lS0 ((wordsN b).getD (t - 15) 0))) % 4294967296 :=
  wextN_at 48 _ t (by rw [first16_len]; exact Nat.le_refl _) (by rw [first16_len]; exact h) (by rw [first16_len]; exact h2)
theorem wordsN_lt (b : List Int) (hb : ∀ x ∈ b, 0 ≤ x ∧ x ≤ 255) (t : Nat) : (wordsN b).getD t 0 < 4294967296 := by
  rcases Nat.lt_or_ge t 16 with h | h
  · rw [wordsN_first b t h]
    have := valN_lt ((b.drop (4 * t)).take 4) (fun x hx => hb x (List.mem_of_mem_drop (List.mem_of_mem_take hx)))
    have h2 : ((b.drop (4 * t)).take 4).length ≤ 4 := by rw [List.length_take]; omega
    have h3 : 256 ^ ((b.drop (4 * t)).take 4).length ≤ 256 ^ 4 := Nat.pow_le_pow_right (by omega) h2
    omega
  · rcases Nat.lt_or_ge t 64 with h2 | h2
    · rw [wordsN_at b t h h2]; exact Nat.mod_lt _ (by decide)
    · rw [List.getD_eq_getElem?_getD, List.getElem?_eq_none (by rw [wordsN_len]; exact h2)]; decide
end Go.Proofs.YtfmdpkilgnccfaaDoor.E
