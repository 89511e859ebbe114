/- num.Put and num.Get at four and eight bytes, in closed form. -/
import Derived.Test.YtfmdpkilgnccfaaDoorF47
import Derived.Test.YtfmdpkilgnccfaaDoorBase
namespace Go.Proofs.YtfmdpkilgnccfaaDoor.E
open Go.RowKit Go.Proofs.YtfmdpkilgnccfaaDoorW.PrintWords Go.Proofs.YtfmdpkilgnccfaaDoorW.PrintLast Go.Proofs.YtfmdpkilgnccfaaDoorW.PrintMore Go.Proofs.YtfmdpkilgnccfaaDoor.Pr
attribute [local go_sem] max2_int min2_int max_two min_two max_three min_three max_four min_four
set_option linter.unusedVariables false
set_option linter.unusedSimpArgs false
/-- Big-endian, k bytes. -/
def beN (n : Nat) : Nat → List Int
  | 0 => []
  | k + 1 => ((n / 256 ^ k % 256 : Nat) : Int) :: beN n k
theorem shr_nat (n k : Nat) (h : k ≤ 64) : shr .u64 (n : Int) (k : Int) % 256 = ((n / 2 ^ k % 256 : Nat) : Int) := by
  unfold shr
  have : min ((k : Int)).toNat IntKind.u64.bits = k := by rw [Int.toNat_natCast]; exact Nat.min_eq_left h
  rw [this]
  simp
theorem put4 (n : Nat) : num_Put.f 9 (n : Int) 4 = some (beN n 4) := by
  have : num_Put.f 9 (n : Int) 4 = some [shr .u64 n ((24 : Nat) : Int) % 256, shr .u64 n ((16 : Nat) : Int) % 256, shr .u64 n ((8 : Nat) : Int) % 256, shr .u64 n ((0 : Nat) : Int) % 256] := by kernel_rfl
  rw [this, shr_nat _ _ (by omega), shr_nat _ _ (by omega), shr_nat _ _ (by omega), shr_nat _ _ (by omega)]
  rfl
theorem put8 (n : Nat) : num_Put.f 9 (n : Int) 8 = some (beN n 8) := by
  have : num_Put.f 9 (n : Int) 8 = some [shr .u64 n ((56 : Nat) : Int) % 256, shr .u64 n ((48 : Nat) : Int) % 256, shr .u64 n ((40 : Nat) : Int) % 256, shr .u64 n ((32 : Nat) : Int) % 256, shr .u64 n ((24 : Nat) : Int) % 256, shr .u64 n ((16 : Nat) : Int) % 256, shr .u64 n ((8 : Nat) : Int) % 256, shr .u64 n ((0 : Nat) : Int) % 256] := by kernel_rfl
  rw [this, shr_nat _ _ (by omega), shr_nat _ _ (by omega), shr_nat _ _ (by omega), shr_nat _ _ (by omega), shr_nat _ _ (by omega), shr_nat _ _ (by omega), shr_nat _ _ (by omega), shr_nat _ _ (by omega)]
  rfl
/-- The way back. -/
def valN (l : List Int) : Nat := l.foldl (fun n c => 256 * n + c.toNat) 0
theorem valN_snoc (l : List Int) (c : Int) : valN (l ++ [c]) = 256 * valN l + c.toNat := by simp [valN]
theorem fold_lt (l : List Int) : ∀ n : Nat, (∀ x ∈ l, 0 ≤ x ∧ x ≤ 255) → l.foldl (fun n c => 256 * n + c.toNat) n + 1 ≤ (n + 1) * 256 ^ l.length := by
  induction l with
  | nil => intro n _; simp
  | cons a l ih =>
    intro n h
    have h1 := ih (256 * n + a.toNat) (fun x hx => h x (List.mem_cons_of_mem _ hx))
    have h2 := h a (List.mem_cons_self ..)
    rw [List.foldl_cons, List.length_cons, Nat.pow_succ]
    refine Nat.le_trans h1 ?_
    have : (256 * n + a.toNat + 1) * 256 ^ l.length ≤ ((n + 1) * 256) * 256 ^ l.length := Nat.mul_le_mul_right _ (by omega)
    rw [Nat.mul_comm (256 ^ l.length) 256, ← Nat.mul_assoc]
    exact this
theorem valN_lt (l : List Int) (h : ∀ x ∈ l, 0 ≤ x ∧ x ≤ 255) : valN l < 256 ^ l.length := by
  have := fold_lt l 0 h
  unfold valN
  omega
theorem wraps_u64 (n : Int) (h₀ : 0 ≤ n) (h₁ : n < 2 ^ 64) : IntKind.u64.wrap n = n := by
  have : IntKind.u64.wrap n = n % 18446744073709551616 := by simp [IntKind.wrap, IntKind.bits, IntKind.signed]
  rw [this]; omega
theorem or64 (v : Nat) (c : Int) (hv : v < 72057594037927936) (h0 : 0 ≤ c) (h1 : c ≤ 255) : bits .or .u64 ((v : Int) * 256) c = ((256 * v + c.toNat : Nat) : Int) := by
  have e : (v : Int) * 256 = ((v * 256 : Nat) : Int) := by omega
  have h := (bits_nat .u64 64 (by decide) wraps_u64 (v * 256) c.toNat (by omega) (by omega)).2
  rw [Int.toNat_of_nonneg h0] at h
  rw [e, h]
  have : v * 256 ||| c.toNat = 2 ^ 8 * v + c.toNat := by
    rw [Nat.mul_comm, show (256 : Nat) = 2 ^ 8 by rfl, Nat.two_pow_add_eq_or_of_lt (by omega)]
  rw [this]
set_option maxHeartbeats 2000000 in
set_option maxRecDepth 100000 in
theorem get_any (A0 : Option Addr) (c0 : Nat) (l0 : List Int) (w : World) (hr0 : Kd.C (Kd.int .u8) w A0 l0.length l0) (hc0 : l0.length ≤ c0) (h8 : l0.length ≤ 8) (hall : ∀ x ∈ l0, 0 ≤ x ∧ x ≤ 255) :
    Calls Tryd.prog 61 #[.slice A0 l0.length c0] w fun e w' => e = .returned (.int .u64 (valN l0 : Int)) ∧ w = w' := by
  have HR0 := Aside0.mk hr0
  have HA := Aside0.mk hall
  clear hr0 hall
  go_enter Tryd.func61, Tryd.ntmps61
  go_wp2
  go_loopg [3, 13] l0.length (fun gk v3 v13 wr => ∃ (k : Nat), k ≤ l0.length ∧ v13 = .int .i64 k ∧ v3 = .int .u64 ((valN (l0.take k) : Nat) : Int) ∧ Aside0 (k + gk = l0.length) ∧ w = wr)
  case atStart => exact ⟨0, Nat.zero_le _, rfl, rfl, ⟨by omega⟩, rfl⟩
  case round =>
    obtain ⟨k, hk, rfl, rfl, hgk, rfl⟩ := hrel
    by_cases hp : k < l0.length
    · obtain ⟨ad, rfl, hx⟩ := Kd.at_int HR0.out (k : Int) (by omega) (by omega)
      have hx' : w.cell? (ad.add k) = some (.int .u8 (rd l0 k)) := by simpa using hx
      have hxr := HA.out _ (rd_mem hp)
      have hlt := valN_lt (l0.take k) (fun x hx => HA.out x (List.mem_of_mem_take hx))
      have hl2 : 256 ^ (l0.take k).length ≤ 256 ^ 7 := Nat.pow_le_pow_right (by omega) (by rw [List.length_take]; omega)
      have hsn : valN (l0.take (k + 1)) = 256 * valN (l0.take k) + (rd l0 k).toNat := by rw [take_rd hp, valN_snoc]
      have hv7 : valN (l0.take k) < 72057594037927936 := by omega
      obtain ⟨x, ex⟩ : ∃ x, x = rd l0 k := ⟨_, rfl⟩
      obtain ⟨v, ev⟩ : ∃ v, v = valN (l0.take k) := ⟨_, rfl⟩
      rw [← ex] at hx' hxr hsn
      rw [← ev] at hsn hv7 ⊢
      obtain ⟨hx0, hx1⟩ := hxr
      have HS := Aside0.mk hsn
      have ho := or64 v x hv7 hx0 hx1
      clear hx ex ev hlt hl2 hsn
      go_wp2
      go_roundg (l0.length - (k + 1))
      case measure => have := hgk.out; omega
      case rel => exact ⟨k + 1, by omega, by go_num, by rw [HS.out]; congr 1; omega, ⟨by omega⟩, rfl⟩
    · obtain rfl : k = l0.length := by omega
      rw [List.take_length]
      go_wp2
      go_ret
      exact ⟨rfl, rfl⟩
theorem get_sub {w : World} {ad : Addr} {l : List Int} (h : Kd.C (Kd.int .u8) w (some ad) l.length l) (hall : ∀ x ∈ l, 0 ≤ x ∧ x ≤ 255) (i n c : Nat) (hi : i + n ≤ l.length) (hn : n ≤ 8) (hc : n ≤ c) :
    Calls Tryd.prog 61 #[.slice (some (ad.add i)) n c] w fun e w' => e = .returned (.int .u64 ((valN ((l.drop i).take n) : Nat) : Int)) ∧ w = w' := by
  have hlen : ((l.drop i).take n).length = n := by rw [List.length_take, List.length_drop]; omega
  have hC := C_sub h i n hi
  have := get_any (some (ad.add i)) c ((l.drop i).take n) w (by rw [hlen]; exact hC) (by omega) (by omega) (fun x hx => hall x (List.mem_of_mem_drop (List.mem_of_mem_take hx)))
  rwa [hlen] at this
def num_Get.f (l0 : List Int) : Option Int := if l0.length ≤ 8 ∧ ∀ x ∈ l0, 0 ≤ x ∧ x ≤ 255 then some (valN l0 : Int) else none
theorem num_Get.calls (A0 : Option Addr) (c0 : Nat) (l0 : List Int) (r : Int) (w : World) (hr0 : Kd.C (Kd.int .u8) w A0 l0.length l0) (hc0 : l0.length ≤ c0) (h : num_Get.f l0 = some r) :
    Calls Tryd.prog 61 #[.slice A0 l0.length c0] w fun e w' => e = .returned (.int .u64 r) ∧ Below w.heap.size w w' := by
  unfold num_Get.f at h
  split at h
  · rename_i h2
    injection h with h
    subst h
    refine (get_any A0 c0 l0 w hr0 hc0 h2.1 h2.2).mono ?_
    rintro e w' ⟨rfl, rfl⟩
    exact ⟨rfl, Below.refl _ _⟩
  · cases h
theorem beN_BL (n : Nat) : ∀ k, ∀ x ∈ beN n k, 0 ≤ x ∧ x ≤ 255
  | 0, x, h => by simp [beN] at h
  | k + 1, x, h => by
    simp only [beN, List.mem_cons] at h
    rcases h with rfl | h
    · omega
    · exact beN_BL n k x h
theorem beN_length (n : Nat) : ∀ k, (beN n k).length = k
  | 0 => rfl
  | k + 1 => by simp [beN, beN_length n k]
theorem valN_fold (l : List Int) (m : Nat) : l.foldl (fun n c => 256 * n + c.toNat) m = 256 ^ l.length * m + valN l := by
  induction l generalizing m with
  | nil => simp [valN]
  | cons a l ih =>
    have h1 : valN (a :: l) = l.foldl (fun n c => 256 * n + c.toNat) (256 * 0 + a.toNat) := rfl
    rw [h1, List.foldl_cons, ih, ih, List.length_cons, Nat.pow_succ, Nat.mul_zero, Nat.zero_add, Nat.mul_add, Nat.add_assoc, Nat.mul_assoc]
theorem valN_beN (n : Nat) : ∀ k, valN (beN n k) = n % 256 ^ k
  | 0 => by simp [beN, valN, Nat.mod_one]
  | k + 1 => by
    have h1 : valN (beN n (k + 1)) = (beN n k).foldl (fun n c => 256 * n + c.toNat) (256 * 0 + ((n / 256 ^ k % 256 : Nat) : Int).toNat) := rfl
    rw [h1, valN_fold, beN_length, valN_beN n k, Nat.mul_zero, Nat.zero_add, Int.toNat_natCast, Nat.pow_succ, Nat.mod_mul]
    omega
theorem beN_low (k a v : Nat) : ∀ j, j ≤ k → beN (256 ^ k * a + v) j = beN v j
  | 0, _ => rfl
  | j + 1, h => by
    have e : 256 ^ k * a = 256 ^ j * (256 * (256 ^ (k - j - 1) * a)) := by
      rw [← Nat.mul_assoc, ← Nat.mul_assoc, ← Nat.pow_succ, ← Nat.pow_add, show j + 1 + (k - j - 1) = k by omega]
    rw [beN, beN, beN_low k a v j (by omega), e, Nat.mul_add_div (Nat.pow_pos (by decide)), Nat.mul_add_mod]
theorem beN_valN : ∀ x : List Int, (∀ c ∈ x, 0 ≤ c ∧ c ≤ 255) → beN (valN x) x.length = x
  | [], _ => rfl
  | a :: l, h => by
    have h1 : valN (a :: l) = l.foldl (fun n c => 256 * n + c.toNat) (256 * 0 + a.toNat) := rfl
    have h2 := h a List.mem_cons_self
    have h3 := valN_lt l (fun c hc => h c (List.mem_cons_of_mem _ hc))
    rw [h1, valN_fold, Nat.mul_zero, Nat.zero_add, List.length_cons, beN, beN_low _ _ _ _ (Nat.le_refl _), beN_valN l (fun c hc => h c (List.mem_cons_of_mem _ hc)), Nat.mul_add_div (Nat.pow_pos (by decide)), Nat.div_eq_of_lt h3]
    congr 1
    omega
end Go.Proofs.YtfmdpkilgnccfaaDoor.E
