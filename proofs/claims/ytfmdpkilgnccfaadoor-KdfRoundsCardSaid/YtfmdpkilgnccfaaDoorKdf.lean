/- kdf.Right; the law's known, of chapter 4. -/
import Derived.Test.YtfmdpkilgnccfaaDoorHash2
import Derived.Test.YtfmdpkilgnccfaaDoorF39
import Derived.Lib.SlBytesConst
import Derived.WalkSpells
namespace Go.Proofs.YtfmdpkilgnccfaaDoor.E
open Go.RowKit Go.Proofs.YtfmdpkilgnccfaaDoorW.PrintWords Go.Proofs.YtfmdpkilgnccfaaDoorW.PrintLast Go.Proofs.YtfmdpkilgnccfaaDoorW.PrintMore Go.Proofs.YtfmdpkilgnccfaaDoor.Pr
set_option linter.unusedVariables false
set_option linter.unusedSimpArgs false
theorem wraps_u8 (n : Int) (h₀ : 0 ≤ n) (h₁ : n < 2 ^ 8) : IntKind.u8.wrap n = n := by rw [IntKind.wrap_u8]; omega
theorem or8 (a b : Nat) (ha : a < 256) (hb : b < 256) : bits .or .u8 (a : Int) (b : Int) = ((a ||| b : Nat) : Int) := (bits_nat .u8 8 (by decide) wraps_u8 a b ha hb).2
theorem xor_zero {x y : Nat} (h : x ^^^ y = 0) : x = y := by
  apply Nat.eq_of_testBit_eq
  intro i
  have := congrArg (fun z => z.testBit i) h
  simp only [Nat.testBit_xor, Nat.zero_testBit] at this
  revert this
  cases x.testBit i <;> cases y.testBit i <;> simp
theorem or_zero {x y : Nat} (h : x ||| y = 0) : x = 0 ∧ y = 0 := by
  constructor
  · apply Nat.eq_of_testBit_eq
    intro i
    have := congrArg (fun z => z.testBit i) h
    simp only [Nat.testBit_or, Nat.zero_testBit] at this ⊢
    revert this
    cases x.testBit i <;> cases y.testBit i <;> simp
  · apply Nat.eq_of_testBit_eq
    intro i
    have := congrArg (fun z => z.testBit i) h
    simp only [Nat.testBit_or, Nat.zero_testBit] at this ⊢
    revert this
    cases x.testBit i <;> cases y.testBit i <;> simp
theorem eq_loop (a b : List Int) (ha : ∀ x ∈ a, 0 ≤ x ∧ x ≤ 255) (hb : ∀ x ∈ b, 0 ≤ x ∧ x ≤ 255) (hl : a.length = b.length) (hs : a.length < 1000000) : ∀ (d i p k : Nat), i + d = a.length → p < 256 → mac_Equal.l0 (k + d + 1) a b (p : Int) (a.length : Int) (i : Int) = some (decide (p = 0 ∧ a.drop i = b.drop i))
  | 0, i, p, k, hi, hp => by
    simp only [mac_Equal.l0]
    rw [if_neg (by omega), List.drop_eq_nil_of_le (by omega), List.drop_eq_nil_of_le (by omega)]
    congr 1
    by_cases h : p = 0
    · subst h; rfl
    · rw [decide_eq_false (fun hh => h hh.1)]; exact beq_eq_false_iff_ne.2 (by omega)
  | d + 1, i, p, k, hi, hp => by
    obtain ⟨K, hK⟩ : ∃ K, K = k + d + 1 := ⟨_, rfl⟩
    rw [show k + (d + 1) + 1 = K + 1 by omega]
    simp only [mac_Equal.l0]
    rw [hK]
    have hia : i < a.length := by omega
    have hib : i < b.length := by omega
    have hx := ha _ (rd_mem hia)
    have hy := hb _ (rd_mem hib)
    obtain ⟨x, hxe⟩ : ∃ x : Nat, rd a (i : Int) = (x : Int) := ⟨(rd a (i : Int)).toNat, by omega⟩
    obtain ⟨y, hye⟩ : ∃ y : Nat, rd b (i : Int) = (y : Int) := ⟨(rd b (i : Int)).toNat, by omega⟩
    have hx2 : x < 256 := by omega
    have hy2 : y < 256 := by omega
    have hxy : x ^^^ y < 256 := Nat.xor_lt_two_pow (n := 8) hx2 hy2
    rw [if_pos (by omega), if_pos (by omega), if_pos (by omega), if_pos (by omega), hxe, hye, xor8 x y hx2 hy2, or8 p _ hp hxy, w64_succ i (by omega), eq_loop a b ha hb hl hs d (i + 1) (p ||| (x ^^^ y)) k (by omega) (Nat.or_lt_two_pow (n := 8) hp hxy)]
    have da : a.drop i = (x : Int) :: a.drop (i + 1) := by
      rw [List.drop_eq_getElem_cons hia]; congr 1; rw [← hxe]; simp [rd, List.getD_eq_getElem?_getD, hia]
    have db : b.drop i = (y : Int) :: b.drop (i + 1) := by
      rw [List.drop_eq_getElem_cons hib]; congr 1; rw [← hye]; simp [rd, List.getD_eq_getElem?_getD, hib]
    rw [da, db]
    congr 1
    refine decide_eq_decide.2 ⟨?_, ?_⟩
    · rintro ⟨h1, h2⟩
      obtain ⟨h3, h4⟩ := or_zero h1
      refine ⟨h3, ?_⟩
      rw [xor_zero h4, h2]
    · rintro ⟨h1, h2⟩
      injection h2 with h3 h4
      have : x = y := by omega
      subst this
      subst h1
      exact ⟨by simp, h4⟩
theorem equal_some (a b : List Int) (ha : ∀ x ∈ a, 0 ≤ x ∧ x ≤ 255) (hb : ∀ x ∈ b, 0 ≤ x ∧ x ≤ 255) (hs : a.length < 1000000) : mac_Equal.f (a.length + 1) a b = some (decide (a = b)) := by
  unfold mac_Equal.f
  by_cases hl : a.length = b.length
  · rw [if_pos (by omega)]
    have := eq_loop a b ha hb hl hs a.length 0 0 0 (by omega) (by decide)
    rw [Nat.zero_add] at this
    rw [show ((0 : Nat) : Int) = 0 from rfl] at this
    rw [this]
    simp
  · rw [if_neg (by omega), decide_eq_false (fun h => hl (by rw [h]))]
theorem hashL_len (p s : List Int) (n : Nat) : (hashL p s n).length = 32 := outL_len _ _ (by simp)
theorem hashL_bytes (p s : List Int) (n : Nat) : ∀ x ∈ hashL p s n, 0 ≤ x ∧ x ≤ 255 := outL_bytes _ _ (by intro y hy; rw [List.eq_of_mem_replicate hy]; omega) (by
  intro r hr
  obtain ⟨i, _, rfl⟩ := List.mem_map.1 hr
  exact codeL_bytes _ _)
set_option maxRecDepth 100000 in
set_option maxHeartbeats 8000000 in
theorem right_any (A0 : Option Addr) (c0 : Nat) (pass : List Int) (A1 : Option Addr) (c1 : Nat) (salt : List Int) (n : Nat) (hn1 : 1 ≤ n) (hn : n ≤ 1000) (A2 : Option Addr) (c2 : Nat) (hs : List Int) (w : World) (hr0 : Kd.C (Kd.int .u8) w A0 pass.length pass) (hc0 : pass.length ≤ c0) (hb0 : ∀ x ∈ pass, 0 ≤ x ∧ x ≤ 255) (hl0 : pass.length ≤ 1000000)
    (hr1 : Kd.C (Kd.int .u8) w A1 salt.length salt) (hc1 : salt.length ≤ c1) (hb1 : ∀ x ∈ salt, 0 ≤ x ∧ x ≤ 255) (hl1 : salt.length ≤ 800000) (hr2 : Kd.C (Kd.int .u8) w A2 hs.length hs) (hc2 : hs.length ≤ c2) (hb2 : ∀ x ∈ hs, 0 ≤ x ∧ x ≤ 255) (hG : RootsIn w) :
    Calls Tryd.prog 43 #[.slice A0 pass.length c0, .slice A1 salt.length c1, .int .i64 (n : Int), .slice A2 hs.length c2] w fun e w' => e = .returned (.bool (decide (hashL pass salt n = hs))) ∧ Below w.heap.size w w' := by
  have HH := Aside0.mk (hash_any A0 c0 pass A1 c1 salt n hn1 hn w hr0 hc0 hb0 hl0 hr1 hc1 hb1 hl1 hG)
  have HR2 := Aside0.mk hr2
  have h32 := hashL_len pass salt n
  have hhb := hashL_bytes pass salt n
  obtain ⟨D, hD⟩ : ∃ D, D = hashL pass salt n := ⟨_, rfl⟩
  rw [← hD] at HH h32 hhb ⊢
  have heq := equal_some D hs hhb hb2 (by rw [h32]; decide)
  have HEQ := Aside0.mk heq
  have H32 := Aside0.mk h32
  clear hr0 hb0 hr1 hb1 hr2 hb2 hG hD h32 hhb heq
  have hnn := fun (w : World) (a : Option Addr) (n c : Nat) => run_neq_slice_nil_any (P := Tryd.prog) w 22 5 a n c 0 0 Tryd.underlying22
  go_enter Tryd.func43, Tryd.ntmps43
  go_wp2_with (go_at_call 37; ((with_reducible refine (HH.out).mono ?_)))
  rintro e w1 ⟨v1, rfl, ⟨B, d, rfl, hC, hd⟩, hb⟩
  obtain ⟨ad, rfl, -⟩ := Kd.at_int hC 0 (by decide) (by decide)
  have he := mac_Equal.calls (D.length + 1) (some ad) d D A2 c2 hs (decide (D = hs)) w1 (by rw [H32.out]; exact hC) (by rw [H32.out]; exact hd) (Kd.C_below HR2.out hb) hc2 HEQ.out
  rw [H32.out] at he
  have HE := Aside0.mk he
  have HB := Aside0.mk hb
  clear hC hb he
  go_wp2_with (go_at_call 39; ((with_reducible refine (HE.out).mono ?_); rintro e w2 ⟨rfl, hdr⟩); have HDR := Aside0.mk (below_step HB.out hdr.below); clear hdr)
  go_ret
  exact ⟨rfl, HDR.out⟩
theorem right_out (A0 : Option Addr) (n0 c0 : Nat) (A1 : Option Addr) (n1 c1 : Nat) (n : Int) (A2 : Option Addr) (n2 c2 : Nat) (hn : n < 1 ∨ 1000 < n) (w : World) :
    Calls Tryd.prog 43 #[.slice A0 n0 c0, .slice A1 n1 c1, .int .i64 n, .slice A2 n2 c2] w fun e w' => e = .returned (.bool false) ∧ Below w.heap.size w w' := by
  have HH := Aside0.mk (hash_out A0 n0 c0 A1 n1 c1 n hn w)
  clear hn
  have hnn := fun (w : World) (a : Option Addr) (n c : Nat) => run_neq_slice_nil_any (P := Tryd.prog) w 22 5 a n c 0 0 Tryd.underlying22
  go_enter Tryd.func43, Tryd.ntmps43
  go_wp2_with (go_at_call 37; ((with_reducible refine (HH.out).mono ?_); rintro e w2 ⟨rfl, hb⟩); have HB := Aside0.mk hb; clear hb)
  go_ret
  exact ⟨rfl, HB.out⟩
set_option maxRecDepth 100000 in
theorem hash_pw : hashL [112, 97, 115, 115, 119, 111, 114, 100] [115, 97, 108, 116] 1 = [18, 15, 182, 207, 252, 248, 179, 44, 67, 231, 34, 82, 86, 196, 248, 55, 168, 101, 72, 201, 44, 204, 53, 72, 8, 5, 152, 124, 183, 11, 225, 123] := by decide +kernel
set_option maxHeartbeats 4000000 in
set_option maxRecDepth 100000 in
theorem known4 (w : World) (hG : RootsIn w) : Calls Tryd.prog 34 #[] w fun e w' => e = .returned (.bool true) ∧ Below w.heap.size w w' := by
  have kc := fun (w : World) (C : Array Value) (n c : Nat) => Lib.run_convert_bytes_const (P := Tryd.prog) w 22 5 C n c Tryd.underlying22 Tryd.underlying5
  have hpw := lit_C w [112, 97, 115, 115, 119, 111, 114, 100] (8, 9) (by simp)
  have hsa := lit_C (w.alloc (.cells ([112, 97, 115, 115, 119, 111, 114, 100].map (Value.int .u8)).toArray 5 (8, 9))) [115, 97, 108, 116] (4, 5) (by simp)
  have HB2 := Aside0.mk (((Below.refl _ w).alloc (Nat.le_refl _) (.cells ([112, 97, 115, 115, 119, 111, 114, 100].map (Value.int .u8)).toArray 5 (8, 9))).alloc (by simp) (.cells ([115, 97, 108, 116].map (Value.int .u8)).toArray 5 (4, 5)))
  have hH := hash_any (some ⟨w.heap.size, 0, none⟩) 8 [112, 97, 115, 115, 119, 111, 114, 100] (some ⟨w.heap.size + 1, 0, none⟩) 4 [115, 97, 108, 116] 1 (by decide) (by decide) ((w.alloc (.cells ([112, 97, 115, 115, 119, 111, 114, 100].map (Value.int .u8)).toArray 5 (8, 9))).alloc (.cells ([115, 97, 108, 116].map (Value.int .u8)).toArray 5 (4, 5)))
    (Kd.C_alloc hpw _) (by decide) (by decide) (by decide) (by simpa using hsa) (by decide) (by decide) (by decide) (hG.below rfl HB2.out)
  rw [hash_pw] at hH
  have HH : Aside0 (Calls Tryd.prog 37 #[.slice (some ⟨w.heap.size, 0, none⟩) 8 8, .slice (some ⟨w.heap.size + 1, 0, none⟩) 4 4, .int .i64 1] ((w.alloc (.cells ([112, 97, 115, 115, 119, 111, 114, 100].map (Value.int .u8)).toArray 5 (8, 9))).alloc (.cells ([115, 97, 108, 116].map (Value.int .u8)).toArray 5 (4, 5))) fun e w' => ∃ v, e = .returned v ∧ SumVal [18, 15, 182, 207, 252, 248, 179, 44, 67, 231, 34, 82, 86, 196, 248, 55, 168, 101, 72, 201, 44, 204, 53, 72, 8, 5, 152, 124, 183, 11, 225, 123] v w' ∧ Below _ _ w') := ⟨hH⟩
  have kc2 := kc (w.alloc (.cells ([112, 97, 115, 115, 119, 111, 114, 100].map (Value.int .u8)).toArray 5 (8, 9))) ([115, 97, 108, 116].map (Value.int .u8)).toArray 4 4
  simp only [World.size_alloc, List.map_cons, List.map_nil] at kc2
  simp only [List.map_cons, List.map_nil] at HH HB2
  clear hpw hsa hH hG
  go_enter Tryd.func34, Tryd.ntmps34
  go_wp2_with (go_at_call 37; go_loud (refine (HH.out).mono ?_))
  rintro e w1 ⟨v1, rfl, ⟨B, d, rfl, hC, hd⟩, hb⟩
  have HB := Aside0.mk (HB2.out.trans (hb.mono (by simp; omega)))
  obtain ⟨ad, rfl, h0⟩ := Kd.at_int hC 0 (by decide) (by decide)
  obtain ⟨_, e1, h1⟩ := Kd.at_int hC 1 (by decide) (by decide)
  obtain ⟨_, e31, h31⟩ := Kd.at_int hC 31 (by decide) (by decide)
  cases e1; cases e31
  have g0 : w1.cell? ad = some (.int .u8 18) := by have := h0; rwa [show (0 : Int).toNat = 0 from rfl, Addr.add_zero'] at this
  have g1 : w1.cell? ⟨ad.block, ad.off + 1, none⟩ = some (.int .u8 15) := by have := h1; rwa [show (1 : Int).toNat = 0 + 1 from rfl, Addr.add_succ'] at this
  have g31 : w1.cell? ⟨ad.block, ad.off + 31, none⟩ = some (.int .u8 123) := by have := h31; rwa [show (31 : Int).toNat = 30 + 1 from rfl, Addr.add_succ'] at this
  have HO := Aside0.mk (fun X : World => hash_out none 0 0 none 0 0 0 (.inl (by decide)) X)
  clear h0 h1 h31 hC hb
  go_wp2_with (go_at_call 37; ((with_reducible refine (HO.out _).mono ?_); rintro e w2 ⟨rfl, hb2⟩); have HB3 := Aside0.mk (below_step HB.out hb2); clear hb2)
  go_ret
  exact ⟨rfl, HB3.out⟩
end Go.Proofs.YtfmdpkilgnccfaaDoor.E
