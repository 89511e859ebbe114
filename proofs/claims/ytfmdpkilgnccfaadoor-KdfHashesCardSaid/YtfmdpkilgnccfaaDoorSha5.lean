/- The pad and the sum, in plain numbers. -/
import Derived.Test.YtfmdpkilgnccfaaDoorSha4
import Derived.Test.YtfmdpkilgnccfaaDoorF24
namespace Go.Proofs.YtfmdpkilgnccfaaDoor.E
open Go.RowKit Go.Proofs.YtfmdpkilgnccfaaDoorW.PrintWords Go.Proofs.YtfmdpkilgnccfaaDoorW.PrintLast Go.Proofs.YtfmdpkilgnccfaaDoorW.PrintMore Go.Proofs.YtfmdpkilgnccfaaDoor.Pr
set_option linter.unusedVariables false
set_option linter.unusedSimpArgs false
def padL (n : Nat) : List Int := 128 :: (List.replicate ((119 - n % 64) % 64) 0 ++ beN (8 * n) 8)
theorem padL_len (n : Nat) : (padL n).length = 9 + (119 - n % 64) % 64 := by
  simp only [padL, List.length_cons, List.length_append, List.length_replicate, beN_length]; omega
theorem padL_bytes (n : Nat) : ∀ x ∈ padL n, 0 ≤ x ∧ x ≤ 255 := by
  intro x hx
  simp only [padL, List.mem_cons, List.mem_append, List.mem_replicate] at hx
  rcases hx with rfl | ⟨_, rfl⟩ | h
  · omega
  · omega
  · exact beN_BL _ _ x h
def blocks (n : Nat) : Nat := (n + 9 + (119 - n % 64) % 64) / 64
theorem blocks_eq (n : Nat) : n + (9 + (119 - n % 64) % 64) = 64 * blocks n := by unfold blocks; omega
theorem beN_mod (n k : Nat) : ∀ j, j ≤ k → beN (n % 256 ^ k) j = beN n j := by
  intro j hj
  have h := beN_low k (n / 256 ^ k) (n % 256 ^ k) j hj
  rw [Nat.div_add_mod] at h
  exact h.symm
theorem pad_some (n : Nat) (hn : n < 18446744073709551616) : sha_Pad.f 9 (n : Int) = some (padL n) := by
  unfold sha_Pad.f
  have e1 : wrap64 (1 + (Int.tmod (wrap64 (119 - (wrap64 (Int.tmod (n : Int) 64)))) 64)) = ((1 + (119 - n % 64) % 64 : Nat) : Int) := by
    have h1 : Int.tmod (n : Int) 64 = ((n % 64 : Nat) : Int) := by rw [Int.tmod_eq_emod_of_nonneg (by omega)]; omega
    have h2 : wrap64 ((n % 64 : Nat) : Int) = ((n % 64 : Nat) : Int) := by unfold wrap64; omega
    have h3 : wrap64 (119 - ((n % 64 : Nat) : Int)) = ((119 - n % 64 : Nat) : Int) := by unfold wrap64; omega
    have h4 : Int.tmod ((119 - n % 64 : Nat) : Int) 64 = (((119 - n % 64) % 64 : Nat) : Int) := by rw [Int.tmod_eq_emod_of_nonneg (by omega)]; omega
    rw [h1, h2, h3, h4]
    unfold wrap64; omega
  have e2 : IntKind.u64.wrap ((n : Int) * 8) = (((8 * n) % 18446744073709551616 : Nat) : Int) := by rw [IntKind.wrap_u64]; omega
  rw [e1, e2, if_pos (by omega), Int.toNat_natCast, if_pos (by omega), Option.bind_some, if_pos (by rw [List.length_replicate]; omega), Option.bind_some, put8, Option.bind_some, if_pos (by rw [List.length_set, List.length_replicate, beN_length]; omega)]
  have h8 : beN ((8 * n) % 18446744073709551616) 8 = beN (8 * n) 8 := beN_mod (8 * n) 8 8 (Nat.le_refl _)
  rw [h8, show 1 + (119 - n % 64) % 64 = (119 - n % 64) % 64 + 1 by omega, List.replicate_succ]
  rfl
def ivH : H8 := ⟨0x6a09e667, 0xbb67ae85, 0x3c6ef372, 0xa54ff53a, 0x510e527f, 0x9b05688c, 0x1f83d9ab, 0x5be0cd19⟩
theorem ivH_ok : ivH.ok := by unfold H8.ok ivH; decide
def digL (l : List Nat) : List Int := l.flatMap fun n => beN n 4
/-- The state behind so many blocks of a row. -/
def runB (h : H8) (xs : List Int) (m : Nat) : H8 := (chunksL xs m).foldl blockN h
theorem blockN_ok (h : H8) (b : List Int) : (blockN h b).ok := addN_ok _ _
theorem foldB_ok {h : H8} (hh : h.ok) : ∀ l : List (List Int), (l.foldl blockN h).ok
  | [] => hh
  | b :: l => foldB_ok (blockN_ok h b) l
def shaL (l : List Int) : List Int := digL (runB ivH (l ++ padL l.length) (blocks l.length)).nats
theorem digL_len8 (s : H8) : (digL s.nats).length = 32 := by simp [digL, H8.nats, beN_length]
theorem digL_bytes (l : List Nat) : ∀ x ∈ digL l, 0 ≤ x ∧ x ≤ 255 := by
  intro x hx
  obtain ⟨n, _, h⟩ := List.mem_flatMap.1 hx
  exact beN_BL _ _ x h
theorem shaL_len (l : List Int) : (shaL l).length = 32 := digL_len8 _
theorem shaL_bytes (l : List Int) : ∀ x ∈ shaL l, 0 ≤ x ∧ x ≤ 255 := digL_bytes _
theorem chunk46 (A : Option Addr) (n c : Nat) (w : World) : Calls Tryd.prog 46 #[.slice A n c, .int .i64 64] w fun e w' => e = .returned (.func (.func 60) #[] #[.pointer (some ⟨w.heap.size, 0, none⟩), .pointer (some ⟨w.heap.size + 1, 0, none⟩)]) ∧
    w' = (w.alloc (.cells #[.slice A n c] 22)).alloc (.cells #[.int .i64 64] 3) := by
  go_enter Tryd.func46, Tryd.ntmps46
  go_wp2
  go_ret
  exact ⟨by simp, rfl⟩
end Go.Proofs.YtfmdpkilgnccfaaDoor.E
