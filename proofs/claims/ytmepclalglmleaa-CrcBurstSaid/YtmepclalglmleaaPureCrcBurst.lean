import Derived.Test.YtmepclalglmleaaF10
namespace Go.Proofs.Ytmepclalglmleaa.Pure
open Go.RowKit Go.Proofs.Ytmepclalglmleaa.Pr Go.Proofs.Ytmepclalglmleaa.E Go.Proofs.YtmepclalglmleaaW.PrintWords Go.Proofs.YtmepclalglmleaaW.PrintLast
theorem xor8 (a b : Nat) (ha : a < 256) (hb : b < 256) : Go.bits .xor .u8 (a : Int) (b : Int) = ((a ^^^ b : Nat) : Int) := by
  have hb' : (2 : Nat) ^ IntKind.u8.bits = 256 := rfl
  simp only [Go.bits, BitVec.ofInt_natCast, BitVec.toNat_xor, BitVec.toNat_ofNat, hb', Nat.mod_eq_of_lt ha, Nat.mod_eq_of_lt hb]
  have h := Nat.xor_lt_two_pow (n := 8) ha hb
  rw [IntKind.wrap_u8]; omega
theorem shl8 : ∀ q : Nat, q < 8 → shl .u8 1 (q : Int) = ((2 ^ q : Nat) : Int) := by decide
theorem shr_bit (a q : Nat) (h : q ≤ 32) : Int.tmod (shr .u32 (a : Int) (q : Int)) 2 = ((a / 2 ^ q % 2 : Nat) : Int) := by
  have e : shr .u32 (a : Int) (q : Int) = ((a / 2 ^ q : Nat) : Int) := by
    unfold shr
    have : min (q : Int).toNat 32 = q := by rw [Int.toNat_natCast]; omega
    rw [show IntKind.u32.bits = 32 from rfl, this]
    norm_cast
  rw [e]
  generalize a / 2 ^ q = m
  rw [Int.tmod_eq_emod_of_nonneg (by omega)]
  omega
theorem wu (i : Nat) (h : i ≤ 64) : IntKind.u64.wrap (i : Int) = (i : Int) := by rw [IntKind.wrap_u64]; omega
theorem burst_loop (l0 : List Int) (bits : Nat) (fst : Nat) (hl : l0.length ≤ 200) (hb0 : ∀ x ∈ l0, 0 ≤ x ∧ x ≤ 255) (hf : fst < 8 * l0.length) :
    ∀ (d i : Nat) (L : List Int) (B : Nat), i + d = 32 → L.length = l0.length → (∀ x ∈ L, 0 ≤ x ∧ x ≤ 255) → B < 2 ^ i → VV L = VV l0 ^^^ (2 ^ fst * B) →
      ∀ (o : Bool), (o = true ↔ B ≠ 0) → wicketmanlaw13_CrcBurst.l0 (2 * d + 2) l0 (bits : Int) L (fst : Int) o (i : Int) = some true := by
  have hkn : wicketmanlaw13_known.f = some true := rfl
  have fin : ∀ (k : Nat) (i : Int) (L : List Int) (B : Nat), L.length = l0.length → (∀ x ∈ L, 0 ≤ x ∧ x ≤ 255) → B < 4294967296 → VV L = VV l0 ^^^ (2 ^ fst * B) →
      ∀ (o : Bool), (o = true ↔ B ≠ 0) → wicketmanlaw13_CrcBurst.j2 (k + 1) l0 (bits : Int) L (fst : Int) o i false = some true := by
    intro k i L B hL hLb hB hV o ho
    simp only [wicketmanlaw13_CrcBurst.j2]
    have s1 : crc_Sum.f L = some ((crcN L : Nat) : Int) := by unfold crc_Sum.f; rw [if_pos hLb]
    have s2 : crc_Sum.f l0 = some ((crcN l0 : Nat) : Int) := by unfold crc_Sum.f; rw [if_pos hb0]
    have hd := crcN_diff hL fst B (by omega) hB hV
    rw [if_neg (by decide), hkn, Option.bind_some, if_pos rfl, s1, Option.bind_some, s2, Option.bind_some]
    congr 1
    rw [beq_iff_eq, Bool.eq_iff_iff, beq_iff_eq, Int.ofNat_inj, hd]
    cases o with
    | true => simp at ho; simp [ho]
    | false => simp at ho; simp [ho]
  intro d
  induction d with
  | zero =>
    intro i L B hi hL hLb hB hV o ho
    obtain rfl : i = 32 := by omega
    simp only [wicketmanlaw13_CrcBurst.l0]
    rw [if_neg (by decide)]
    exact fin 0 _ L B hL hLb hB hV o ho
  | succ d ih =>
    intro i L B hi hL hLb hB hV o ho
    have hB32 : B < 4294967296 := Nat.lt_of_lt_of_le hB (by have h := Nat.pow_le_pow_right (n := 2) (by decide) (show i ≤ 32 by omega); simpa using h)
    have e1 : Aside0 (wrap64 ((fst : Int) + (i : Int)) = ((fst + i : Nat) : Int)) := ⟨by unfold wrap64; omega⟩
    have e2 : Aside0 (wrap64 (8 * (L.length : Int)) = ((8 * l0.length : Nat) : Int)) := ⟨by rw [hL]; unfold wrap64; omega⟩
    have e3 : Aside0 (wrap64 ((i : Int) + 1) = ((i + 1 : Nat) : Int)) := ⟨by unfold wrap64; omega⟩
    have e4 : Aside0 (IntKind.u64.wrap (i : Int) = (i : Int)) := ⟨wu i (by omega)⟩
    show wicketmanlaw13_CrcBurst.l0 ((2 * d + 3) + 1) l0 (bits : Int) L (fst : Int) o (i : Int) = some true
    simp only [wicketmanlaw13_CrcBurst.l0]
    rw [if_pos (by omega), e1.out, e2.out]
    by_cases c : fst + i < 8 * l0.length
    · have c' : decide (((fst + i : Nat) : Int) < ((8 * l0.length : Nat) : Int)) = true := decide_eq_true (by omega)
      rw [c']
      show wicketmanlaw13_CrcBurst.j2 ((2 * d + 2) + 1) l0 (bits : Int) L (fst : Int) o (i : Int) true = some true
      simp only [wicketmanlaw13_CrcBurst.j2]
      have e5 : Aside0 (Int.tdiv ((fst + i : Nat) : Int) 8 = (((fst + i) / 8 : Nat) : Int)) := ⟨by rw [Int.tdiv_eq_ediv_of_nonneg (by omega)]; omega⟩
      have e6 : Aside0 (Int.tmod ((fst + i : Nat) : Int) 8 = (((fst + i) % 8 : Nat) : Int)) := ⟨by rw [Int.tmod_eq_emod_of_nonneg (by omega)]; omega⟩
      obtain ⟨p, hp⟩ : ∃ p, p = (fst + i) / 8 := ⟨_, rfl⟩
      obtain ⟨q, hq⟩ : ∃ q, q = (fst + i) % 8 := ⟨_, rfl⟩
      have hpq : fst + i = 8 * p + q := by omega
      have hq8 : q < 8 := by omega
      have hpl : p < L.length := by omega
      have e7 : Aside0 (wrap64 (p : Int) = (p : Int)) := ⟨by unfold wrap64; omega⟩
      have e8 : Aside0 (IntKind.u64.wrap (q : Int) = (q : Int)) := ⟨wu q (by omega)⟩
      rw [if_pos trivial, e4.out, if_pos (by omega), shr_bit bits i (by omega), e1.out, e5.out, e6.out, ← hp, ← hq, e7.out, e8.out, e3.out]
      by_cases cb : bits / 2 ^ i % 2 = 1
      · rw [if_pos (by omega), if_pos (by omega), if_pos (by omega), if_pos (by omega), Int.toNat_natCast, shl8 q hq8]
        have hx := hLb _ (rd_mem hpl)
        obtain ⟨x, hxx⟩ : ∃ x : Nat, rd L (p : Int) = (x : Int) := ⟨(rd L (p : Int)).toNat, by omega⟩
        have h2q : 2 ^ q < 256 := Nat.lt_of_lt_of_le (Nat.pow_lt_pow_right (by decide) hq8) (by decide)
        have hxl : x < 256 := by omega
        rw [hxx, xor8 x (2 ^ q) hxl h2q]
        have hxq : x ^^^ 2 ^ q < 256 := Nat.xor_lt_two_pow (n := 8) hxl h2q
        have hnew : B < 2 ^ i := hB
        refine ih (i + 1) (L.set p ((x ^^^ 2 ^ q : Nat) : Int)) (B ^^^ 2 ^ i) (by omega) (by rw [List.length_set]; exact hL) ?_ ?_ ?_ true ?_
        · intro y hy
          rcases List.mem_or_eq_of_mem_set hy with hy | hy
          · exact hLb y hy
          · omega
        · exact Nat.xor_lt_two_pow (Nat.lt_of_lt_of_le hB (Nat.pow_le_pow_right (by decide) (Nat.le_succ i))) (Nat.pow_lt_pow_right (by decide) (Nat.lt_succ_self i))
        · have hd : x ^^^ (x ^^^ 2 ^ q) = 2 ^ q := by rw [← Nat.xor_assoc, Nat.xor_self, Nat.zero_xor]
          rw [VV_set L p _ hpl, hV, hxx, Int.toNat_natCast, Int.toNat_natCast, hd, mul_pow_xor fst, ← Nat.pow_add, ← Nat.pow_add, hpq, Nat.xor_assoc]
        · refine ⟨fun _ h => ?_, fun _ => rfl⟩
          have := xz h
          omega
      · rw [if_neg (by omega)]
        exact ih (i + 1) L B (by omega) hL hLb (Nat.lt_of_lt_of_le hB (Nat.pow_le_pow_right (by decide) (Nat.le_succ i))) hV o ho
    · have c' : decide (((fst + i : Nat) : Int) < ((8 * l0.length : Nat) : Int)) = false := decide_eq_false (by omega)
      rw [c']
      exact fin (2 * d + 2) _ L B hL hLb hB32 hV o ho
theorem CrcBurst : wicketmanlaw13_CrcBurst.Pure := by
  intro l0 a1 a2 hm hq hall h1 h2
  have h1' := wf_u16 h1
  have h2' := wf_u32 h2
  have hall' : ∀ x ∈ l0, 0 ≤ x ∧ x ≤ 255 := fun x hx => wf_u8 (hall x hx)
  clear h1 h2 hall hm hq
  have hkn : wicketmanlaw13_known.f = some true := rfl
  refine ⟨67, ?_⟩
  have triv : wicketmanlaw13_CrcBurst.j0 67 l0 a1 a2 true = some true := by
    simp only [wicketmanlaw13_CrcBurst.j0]
    rw [if_pos trivial, hkn]; rfl
  unfold wicketmanlaw13_CrcBurst.f
  by_cases c : (l0.length : Int) > 200
  · rw [if_pos c]; exact triv
  · rw [if_neg c]
    by_cases c2 : l0.length = 0
    · have : ((l0.length : Int) == 0) = true := by rw [beq_iff_eq]; omega
      rw [this]; exact triv
    · have : ((l0.length : Int) == 0) = false := by rw [beq_eq_false_iff_ne]; omega
      rw [this]
      simp only [wicketmanlaw13_CrcBurst.j0]
      obtain ⟨n, rfl⟩ : ∃ n : Nat, a1 = (n : Int) := ⟨a1.toNat, by omega⟩
      obtain ⟨b, rfl⟩ : ∃ b : Nat, a2 = (b : Int) := ⟨a2.toNat, by omega⟩
      have e1 : wrap64 (n : Int) = (n : Int) := by unfold wrap64; omega
      have e2 : wrap64 (8 * (l0.length : Int)) = ((8 * l0.length : Nat) : Int) := by unfold wrap64; omega
      obtain ⟨f, hf, hfl⟩ : ∃ f, f = n % (8 * l0.length) ∧ f < 8 * l0.length := ⟨_, rfl, Nat.mod_lt _ (by omega)⟩
      have e3 : Int.tmod (n : Int) ((8 * l0.length : Nat) : Int) = (f : Int) := by rw [Int.tmod_eq_emod_of_nonneg (by omega), hf]; exact (Int.natCast_emod _ _).symm
      rw [if_neg (by decide), if_pos (by rw [List.length_nil]; omega), Option.bind_some, List.nil_append, e2, if_neg (by omega), e1, e3]
      refine burst_loop l0 b f (by omega) hall' hfl 32 0 l0 0 rfl rfl hall' (by decide) (by simp) false ?_
      simp
end Go.Proofs.Ytmepclalglmleaa.Pure
