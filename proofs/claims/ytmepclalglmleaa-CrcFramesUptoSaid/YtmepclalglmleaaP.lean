/- The sum of a frame as a linear thing: plain numbers alone. -/
import Derived.Test.YtmepclalglmleaaC4
namespace Go.Proofs.Ytmepclalglmleaa.E
open Go.RowKit Go.Proofs.YtmepclalglmleaaW.PrintWords Go.Proofs.YtmepclalglmleaaW.PrintLast Go.Proofs.YtmepclalglmleaaW.PrintMore Go.Proofs.Ytmepclalglmleaa.Pr
theorem xz {a b : Nat} (h : a ^^^ b = 0) : a = b := by
  have := congrArg (fun x => x ^^^ b) h
  simpa [Nat.xor_assoc] using this
theorem x4 (a b c d : Nat) : (a ^^^ b) ^^^ (c ^^^ d) = (a ^^^ c) ^^^ (b ^^^ d) := by
  rw [Nat.xor_assoc, Nat.xor_assoc, ← Nat.xor_assoc b c d, Nat.xor_comm b c, Nat.xor_assoc c b d]
theorem st_xor (a b : Nat) : st (a ^^^ b) = st a ^^^ st b := by
  have h1 : (a ^^^ b) / 2 = a / 2 ^^^ b / 2 := by
    have := Nat.shiftRight_xor_distrib (i := 1) (a := a) (b := b)
    simpa [Nat.shiftRight_eq_div_pow] using this
  have h2 : (a ^^^ b) % 2 = (a % 2) ^^^ (b % 2) := by
    have := @Nat.xor_mod_two_pow a b 1
    simpa using this
  unfold st
  rw [h1, h2, x4]
  congr 1
  rcases Nat.mod_two_eq_zero_or_one a with ha | ha <;> rcases Nat.mod_two_eq_zero_or_one b with hb | hb <;> rw [ha, hb] <;> decide
theorem sts_xor : ∀ (k a b : Nat), sts k (a ^^^ b) = sts k a ^^^ sts k b
  | 0, _, _ => rfl
  | k + 1, a, b => by rw [sts, st_xor, sts_xor k]; rfl
theorem st_zero {n : Nat} (hn : n < 4294967296) (h : st n = 0) : n = 0 := by
  unfold st at h
  have h' := xz h
  rcases Nat.mod_two_eq_zero_or_one n with ha | ha <;> rw [ha] at h' <;> omega
theorem sts_zero : ∀ (k : Nat) {n : Nat}, n < 4294967296 → sts k n = 0 → n = 0
  | 0, _, _, h => h
  | k + 1, _, hn, h => st_zero hn (sts_zero k (st_lt hn) h)
theorem sts_add : ∀ (j k n : Nat), sts (j + k) n = sts k (sts j n)
  | 0, k, n => by rw [Nat.zero_add]; rfl
  | j + 1, k, n => by rw [show j + 1 + k = (j + k) + 1 by omega, sts, sts_add j k]; rfl
theorem st_double (n : Nat) : st (2 * n) = n := by unfold st; rw [show 2 * n / 2 = n by omega, show 2 * n % 2 = 0 by omega]; simp
theorem sts_pow : ∀ (k n : Nat), sts k (2 ^ k * n) = n
  | 0, n => by simp [sts]
  | k + 1, n => by rw [sts, show 2 ^ (k + 1) * n = 2 * (2 ^ k * n) by rw [Nat.pow_succ]; ac_rfl, st_double, sts_pow k]
theorem mul_pow_xor (k a b : Nat) : 2 ^ k * (a ^^^ b) = 2 ^ k * a ^^^ 2 ^ k * b := by
  have := Nat.shiftLeft_xor_distrib (i := k) (a := a) (b := b)
  rw [Nat.shiftLeft_eq, Nat.shiftLeft_eq, Nat.shiftLeft_eq] at this
  rwa [Nat.mul_comm (2 ^ k), Nat.mul_comm (2 ^ k), Nat.mul_comm (2 ^ k)]
/-- The bytes as one number, the first lowest. -/
def VV : List Int → Nat
  | [] => 0
  | x :: l => x.toNat ^^^ (2 ^ 8 * VV l)
theorem crun_VV : ∀ (l : List Int) (n : Nat), crun n l = sts (8 * l.length) (n ^^^ VV l)
  | [], n => by simp [crun, VV, sts]
  | x :: l, n => by
    have h1 : crun n (x :: l) = crun (sts 8 (n ^^^ x.toNat)) l := rfl
    have h2 : VV l = sts 8 (2 ^ 8 * VV l) := (sts_pow 8 _).symm
    rw [h1, crun_VV l]
    have h3 : sts 8 (n ^^^ x.toNat) ^^^ VV l = sts 8 (n ^^^ x.toNat ^^^ 2 ^ 8 * VV l) := by rw [sts_xor _ _ (2 ^ 8 * VV l), ← h2]
    rw [h3, ← sts_add, Nat.xor_assoc, List.length_cons, show 8 * (l.length + 1) = 8 + 8 * l.length by omega]; rfl
theorem VV_set : ∀ (l : List Int) (p : Nat) (v : Int), p < l.length → VV (l.set p v) = VV l ^^^ (2 ^ (8 * p) * ((rd l p).toNat ^^^ v.toNat))
  | [], p, v, h => absurd h (by simp)
  | x :: l, 0, v, h => by
    have h1 : rd (x :: l) (0 : Nat) = x := rfl
    rw [List.set_cons_zero, h1]
    simp only [VV, Nat.mul_zero, Nat.pow_zero, Nat.one_mul]
    rw [Nat.xor_comm x.toNat (2 ^ 8 * VV l), Nat.xor_assoc, ← Nat.xor_assoc x.toNat, Nat.xor_self, Nat.zero_xor, Nat.xor_comm]
  | x :: l, p + 1, v, h => by
    have h1 : rd (x :: l) ((p + 1 : Nat) : Int) = rd l p := by simp [rd]
    rw [List.set_cons_succ, h1]
    simp only [VV]
    rw [VV_set l p v (by simpa using h), mul_pow_xor, Nat.xor_assoc, ← Nat.mul_assoc, ← Nat.pow_add, show 8 + 8 * p = 8 * (p + 1) by omega]
theorem crcN_diff {l m : List Int} (hl : l.length = m.length) (e B : Nat) (he : e ≤ 8 * m.length) (hB : B < 4294967296) (hV : VV l = VV m ^^^ (2 ^ e * B)) : (crcN l = crcN m) ↔ B = 0 := by
  unfold crcN
  have key : crun 4294967295 l ^^^ crun 4294967295 m = sts (8 * m.length - e) B := by
    rw [crun_VV, crun_VV, hl, ← sts_xor, hV]
    have : (4294967295 ^^^ (VV m ^^^ 2 ^ e * B)) ^^^ (4294967295 ^^^ VV m) = 2 ^ e * B := by
      rw [x4, Nat.xor_self, Nat.zero_xor, Nat.xor_comm (VV m), Nat.xor_assoc, Nat.xor_self, Nat.xor_zero]
    rw [this, show 8 * m.length = e + (8 * m.length - e) by omega, sts_add, sts_pow, Nat.add_sub_cancel_left]
  constructor
  · intro h
    have h' : crun 4294967295 l = crun 4294967295 m := by
      have h2 := congrArg (fun x => x ^^^ 4294967295) h
      simpa [Nat.xor_assoc] using h2
    rw [h', Nat.xor_self] at key
    exact sts_zero _ hB key.symm
  · rintro rfl
    have h0 : sts (8 * m.length - e) 0 = 0 := by
      have := sts_pow (8 * m.length - e) 0
      simpa using this
    rw [h0] at key
    rw [xz key]
theorem crcN_set {l : List Int} {p : Nat} {v : Int} (hp : p < l.length) (hl : ∀ x ∈ l, 0 ≤ x ∧ x ≤ 255) (hv : 0 ≤ v ∧ v ≤ 255) (h : crcN (l.set p v) = crcN l) : v = rd l p := by
  have hx := hl _ (rd_mem hp)
  have hB := (crcN_diff (l := l.set p v) (m := l) (by simp) (8 * p) ((rd l p).toNat ^^^ v.toNat) (by omega) (lt32 (by omega) (by omega)) (VV_set l p v hp)).mp h
  have := xz hB
  omega
theorem valN_cons_set {l : List Int} {p : Nat} {v : Int} (hp : p < l.length) (hl : ∀ x ∈ l, 0 ≤ x ∧ x ≤ 255) (hv : 0 ≤ v ∧ v ≤ 255) (h : valN (l.set p v) = valN l) : v = rd l p := by
  have key : ∀ (l : List Int) (n : Nat), l.foldl (fun n c => 256 * n + c.toNat) n = 256 ^ l.length * n + valN l := by
    intro l
    induction l with
    | nil => intro n; simp [valN]
    | cons a l ih =>
      intro n
      have h1 : valN (a :: l) = l.foldl (fun n c => 256 * n + c.toNat) (256 * 0 + a.toNat) := rfl
      rw [h1, List.foldl_cons, ih, ih, List.length_cons, Nat.pow_succ, Nat.mul_zero, Nat.zero_add, Nat.mul_add]
      rw [Nat.add_assoc, Nat.mul_assoc]
  have hlen := List.take_append_drop p l
  have e1 : l.set p v = l.take p ++ v :: l.drop (p + 1) := by rw [List.set_eq_take_append_cons_drop, if_pos hp]
  have e2 : l = l.take p ++ rd l p :: l.drop (p + 1) := by
    have := List.drop_eq_getElem_cons hp
    conv => lhs; rw [← hlen, this]
    simp [rd, List.getD_eq_getElem?_getD, hp]
  rw [e1] at h
  conv at h => rhs; rw [e2]
  unfold valN at h
  rw [List.foldl_append, List.foldl_append, List.foldl_cons, List.foldl_cons, key (l.drop (p + 1)), key (l.drop (p + 1))] at h
  have h3 := Nat.add_right_cancel h
  have h4 := Nat.eq_of_mul_eq_mul_left (Nat.pow_pos (by decide)) h3
  have hx := hl _ (rd_mem hp)
  omega
theorem wf_u8 {x : Int} (h : (Lit.int .u8 x).wf = true) : 0 ≤ x ∧ x ≤ 255 := by
  have h2 : IntKind.u8.min ≤ x ∧ x ≤ IntKind.u8.max := by simpa [Lit.wf] using h
  have e1 : IntKind.u8.min = 0 := by decide
  have e2 : IntKind.u8.max = 255 := by decide
  rw [e1, e2] at h2
  omega
theorem wf_u16 {x : Int} (h : (Lit.int .u16 x).wf = true) : 0 ≤ x ∧ x < 65536 := by
  have h2 : IntKind.u16.min ≤ x ∧ x ≤ IntKind.u16.max := by simpa [Lit.wf] using h
  have e1 : IntKind.u16.min = 0 := by decide
  have e2 : IntKind.u16.max = 65535 := by decide
  rw [e1, e2] at h2
  omega
theorem wf_u32 {x : Int} (h : (Lit.int .u32 x).wf = true) : 0 ≤ x ∧ x < 4294967296 := by
  have h2 : IntKind.u32.min ≤ x ∧ x ≤ IntKind.u32.max := by simpa [Lit.wf] using h
  have e1 : IntKind.u32.min = 0 := by decide
  have e2 : IntKind.u32.max = 4294967295 := by decide
  rw [e1, e2] at h2
  omega
theorem wf_u64 {x : Int} (h : (Lit.int .u64 x).wf = true) : 0 ≤ x ∧ x < 18446744073709551616 := by
  have h2 : IntKind.u64.min ≤ x ∧ x ≤ IntKind.u64.max := by simpa [Lit.wf] using h
  have e1 : IntKind.u64.min = 0 := by decide
  have e2 : IntKind.u64.max = 18446744073709551615 := by decide
  rw [e1, e2] at h2
  omega
end Go.Proofs.Ytmepclalglmleaa.E
