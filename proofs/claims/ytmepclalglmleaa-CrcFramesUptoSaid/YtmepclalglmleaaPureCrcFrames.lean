import Derived.Test.YtmepclalglmleaaF12
import Derived.Test.YtmepclalglmleaaPureCrcBack
namespace Go.Proofs.Ytmepclalglmleaa.Pure
open Go.RowKit Go.Proofs.Ytmepclalglmleaa.Pr Go.Proofs.Ytmepclalglmleaa.E Go.Proofs.YtmepclalglmleaaW.PrintWords Go.Proofs.YtmepclalglmleaaW.PrintLast
theorem reads_some {l : List Int} {a : Int} (hl : l.length ≤ 1000000) (hb : ∀ x ∈ l, 0 ≤ x ∧ x ≤ 255) (h0 : 0 ≤ a) (h1 : a < 18446744073709551616) : wicketmanlaw13_reads.f l a = some true := by
  unfold wicketmanlaw13_reads.f
  rw [if_pos ⟨hl, hb, h0, h1⟩]
theorem frames_rest (k n : Nat) (l0 : List Int) (a5 : Int) (X Y : List Int) (hn : n < 18446744073709551616) (hl0 : l0.length ≤ 300) (hb0 : ∀ x ∈ l0, 0 ≤ x ∧ x ≤ 255) (hX : X.length ≤ 1000) (hXb : ∀ x ∈ X, 0 ≤ x ∧ x ≤ 255) (hY : Y.length ≤ 1000) (hYb : ∀ x ∈ Y, 0 ≤ x ∧ x ≤ 255)
    (h5 : 0 ≤ a5 ∧ a5 ≤ 255) (hk : 40000 ≤ k) : wicketmanlaw13_CrcFrames.j1 (k + 1) l0 (n : Int) a5 (frameL n l0) 0 (frameL n l0) 0 X Y = some true := by
  simp only [wicketmanlaw13_CrcFrames.j1]
  have e0 : wrap64 0 = 0 := by unfold wrap64; omega
  have hF := frameL_len n l0
  have hFb := frameL_bytes n l0 hb0
  have hS : crc_Sum.f l0 = some ((crcN l0 : Nat) : Int) := by unfold crc_Sum.f; rw [if_pos hb0]
  have hT := ref_sum l0 hb0 (by omega) k (by omega)
  have r1 := reads_some (a := (n : Int)) (by omega : l0.length ≤ 1000000) hb0 (by omega) (by omega)
  have r2 := reads_some (a := (n : Int)) (by omega : (frameL n l0).length ≤ 1000000) hFb (by omega) (by omega)
  have r3 := reads_some (a := (n : Int)) (by omega : X.length ≤ 1000000) hXb (by omega) (by omega)
  have r4 := reads_some (a := (n : Int)) (by omega : Y.length ≤ 1000000) hYb (by omega) (by omega)
  have hw : 0 ≤ IntKind.u64.wrap ((n : Int) + 1) ∧ IntKind.u64.wrap ((n : Int) + 1) < 18446744073709551616 := by rw [IntKind.wrap_u64]; omega
  have r6 := reads_some (a := IntKind.u64.wrap ((n : Int) + 1)) (by omega : X.length ≤ 1000000) hXb hw.1 hw.2
  obtain ⟨t, ht, h0, h1⟩ : ∃ t : Int, wrap64 ((X.length : Int) - (mn (X.length : Int) (wrap64 a5))) = t ∧ 0 ≤ t ∧ t ≤ (X.length : Int) := ⟨_, rfl, by unfold mn wrap64; omega, by unfold mn wrap64; omega⟩
  have r5 := reads_some (l := X.take t.toNat) (a := (n : Int)) (by rw [List.length_take]; omega) (fun x hx => hXb x (List.mem_of_mem_take hx)) (by omega) (by omega)
  rw [if_pos trivial, e0, if_pos rfl, hS, Option.bind_some, hT, Option.bind_some, if_pos rfl, r1, Option.bind_some, if_pos rfl, r2, Option.bind_some, if_pos rfl, r3, Option.bind_some, if_pos rfl, r4, Option.bind_some, if_pos rfl, ht, if_pos h0, if_pos h1, r5, Option.bind_some, if_pos rfl, r6, Option.bind_some]
theorem CrcFrames (l0 : List Int) (a1 : Int) (l2 : List (List Int)) (a3 a4 a5 : Int) (hb0 : ∀ x ∈ l0, 0 ≤ x ∧ x ≤ 255) (h1 : (Lit.int .u64 a1).wf = true) (hs : bulk l2 < 4611686018427387904) (hb2 : ∀ l ∈ l2, ∀ x ∈ l, 0 ≤ x ∧ x ≤ 255)
    (h3 : (Lit.int .u16 a3).wf = true) (h4 : (Lit.int .u8 a4).wf = true) (h5 : (Lit.int .u8 a5).wf = true) : ∃ k, wicketmanlaw13_CrcFrames.f k l0 a1 l2 a3 a4 a5 = some true := by
  have h1' := wf_u64 h1
  have h4' := wf_u8 h4
  have h5' := wf_u8 h5
  have h3' : 0 ≤ a3 ∧ a3 ≤ 65535 := by simpa [Lit.wf, IntKind.min, IntKind.max, IntKind.signed, IntKind.bits] using h3
  clear h1 h3 h4 h5
  have hkn : wicketmanlaw13_known.f = some true := rfl
  have hll := len_le_bulk l2
  refine ⟨50000 + l2.length + 1, ?_⟩
  have hbig : wicketmanlaw13_big.f (50000 + l2.length + 1) l2 = some (decide (((bulk l2 : Nat) : Int) > 800)) := by
    have := big_loop l2 hs (by omega) l2.length 0 50000 (by omega)
    unfold wicketmanlaw13_big.f
    exact this
  have triv : wicketmanlaw13_CrcFrames.j0 (50000 + l2.length + 1) l0 a1 l2 a3 a4 a5 true = some true := by
    simp only [wicketmanlaw13_CrcFrames.j0]
    rw [if_pos trivial, hkn]; rfl
  unfold wicketmanlaw13_CrcFrames.f
  by_cases c0 : (l0.length : Int) > 300
  · rw [if_pos c0]; exact triv
  rw [if_neg c0, hbig, Option.bind_some]
  by_cases c1 : ((bulk l2 : Nat) : Int) > 800
  · rw [decide_eq_true c1, if_pos rfl]; exact triv
  rw [decide_eq_false c1, if_neg (by decide), hkn, Option.bind_some]
  show wicketmanlaw13_CrcFrames.j0 (50000 + l2.length + 1) l0 a1 l2 a3 a4 a5 false = some true
  obtain ⟨n, rfl⟩ : ∃ n : Nat, a1 = (n : Int) := ⟨a1.toNat, by omega⟩
  have hn : n < 18446744073709551616 := by omega
  have hrow : wicketmanlaw13_row.f (50000 + l2.length) (n : Int) l2 = some (rowN n l2) := by
    have := row_loop n hn l2 (by omega) hb2 l2.length 0 [] (50000 + l2.length) (by omega) (by rw [List.drop_zero, List.length_nil]; omega) (by omega)
    unfold wicketmanlaw13_row.f
    rw [List.drop_zero, List.nil_append, Nat.add_zero, Nat.mod_eq_of_lt hn] at this
    exact this
  have hrl := rowN_length l2 n
  have hrb := rowN_bytes l2 n hb2
  have hfr : crc_Frame.f (n : Int) l0 = some (frameL n l0, 0) := by
    unfold crc_Frame.f
    rw [if_neg (by omega), if_pos ⟨h1', hb0⟩, Int.toNat_natCast]
  have hrf := ref_frame n hn l0 hb0 (by omega) (50000 + l2.length) (by omega)
  obtain ⟨R, hR⟩ : ∃ R, R = rowN n l2 := ⟨_, rfl⟩
  rw [← hR] at hrow hrl hrb
  obtain ⟨K, hK⟩ : ∃ K, K = 50000 + l2.length := ⟨_, rfl⟩
  rw [← hK] at hrow hrf ⊢
  simp only [wicketmanlaw13_CrcFrames.j0]
  rw [if_neg (by decide), hfr, Option.bind_some, hrf, Option.bind_some, hrow, Option.bind_some, if_pos (by rw [hrl, List.length_nil]; omega), Option.bind_some, List.nil_append]
  obtain ⟨K', rfl⟩ : ∃ K', K = K' + 1 := ⟨K - 1, by omega⟩
  by_cases c2 : (R.length : Int) > 0
  · have ht : ∃ t : Int, Int.tmod (wrap64 a3) (R.length : Int) = t ∧ 0 ≤ t ∧ t < (R.length : Int) := by
      have e : wrap64 a3 = a3 := by unfold wrap64; omega
      refine ⟨_, rfl, ?_, ?_⟩
      · rw [e]; exact Int.tmod_nonneg _ h3'.1
      · rw [e]; exact Int.tmod_lt_of_pos _ c2
    obtain ⟨t, ht, t0, t1⟩ := ht
    rw [if_pos c2, if_neg (by omega), ht, if_pos t0, if_pos t1]
    refine frames_rest K' n l0 a5 R (R.set t.toNat a4) hn (by omega) hb0 (by omega) hrb (by rw [List.length_set]; omega) (fun x hx => ?_) h5' (by omega)
    rcases List.mem_or_eq_of_mem_set hx with h | rfl
    · exact hrb x h
    · exact h4'
  · rw [if_neg c2]
    exact frames_rest K' n l0 a5 R R hn (by omega) hb0 (by omega) hrb (by omega) hrb h5' (by omega)
end Go.Proofs.Ytmepclalglmleaa.Pure
