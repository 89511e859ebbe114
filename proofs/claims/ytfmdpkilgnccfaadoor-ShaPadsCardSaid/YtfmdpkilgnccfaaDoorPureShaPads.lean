import Derived.Test.YtfmdpkilgnccfaaDoorF5
import Derived.Test.YtfmdpkilgnccfaaDoorSha8
namespace Go.Proofs.YtfmdpkilgnccfaaDoor.Pure
open Go.RowKit Go.Proofs.YtfmdpkilgnccfaaDoor.Pr Go.Proofs.YtfmdpkilgnccfaaDoor.E Go.Proofs.YtfmdpkilgnccfaaDoorW.PrintWords Go.Proofs.YtfmdpkilgnccfaaDoorW.PrintLast
theorem pads_l1 (n : Nat) (x : Int) (hn : n < 4294967296) (hx : x = ((8 * n : Nat) : Int)) (P : List Int) (hP : P = padL n) :
    ∀ (d p k : Nat), p + d = P.length - 8 → 1 ≤ p → wicketmanlaw02_ShaPads.l1 (k + d + 1) (n : Int) P x (p : Int) = some true
  | 0, p, k, hp, h1 => by
    have hl := padL_len n
    rw [← hP] at hl
    simp only [wicketmanlaw02_ShaPads.l1]
    have e1 : wrap64 ((P.length : Int) - 8) = ((P.length - 8 : Nat) : Int) := by unfold wrap64; omega
    have e2 : IntKind.u64.wrap (n : Int) = (n : Int) := by rw [IntKind.wrap_u64]; omega
    have e3 : IntKind.u64.wrap (8 * (n : Int)) = x := by rw [IntKind.wrap_u64]; omega
    have e4 : IntKind.u64.wrap (P.length : Int) = (P.length : Int) := by rw [IntKind.wrap_u64]; omega
    have e5 : IntKind.u64.wrap ((n : Int) + (P.length : Int)) = ((n + P.length : Nat) : Int) := by rw [IntKind.wrap_u64]; omega
    have e6 : Int.tmod ((n + P.length : Nat) : Int) 64 = 0 := by
      rw [Int.tmod_eq_emod_of_nonneg (by omega)]
      have := blocks_eq n
      omega
    have hk : wicketmanlaw02_known.f = some true := rfl
    rw [e1, if_neg (by omega), hk, Option.bind_some, if_pos rfl, e2, e3, if_pos rfl, e4, e5, e6]
    rfl
  | d + 1, p, k, hp, h1 => by
    have hl := padL_len n
    rw [← hP] at hl
    obtain ⟨K, hK⟩ : ∃ K, K = k + d + 1 := ⟨_, rfl⟩
    rw [show k + (d + 1) + 1 = K + 1 by omega]
    simp only [wicketmanlaw02_ShaPads.l1]
    have e1 : wrap64 ((P.length : Int) - 8) = ((P.length - 8 : Nat) : Int) := by unfold wrap64; omega
    have h0 : rd P (p : Int) = 0 := by
      obtain ⟨q, rfl⟩ : ∃ q, p = q + 1 := ⟨p - 1, by omega⟩
      rw [hP]
      unfold rd padL
      rw [Int.toNat_natCast, List.getD_cons_succ, List.getD_eq_getElem?_getD, List.getElem?_append_left (by rw [List.length_replicate]; omega), List.getElem?_replicate]
      split <;> rfl
    rw [e1, if_pos (by omega), if_pos (by omega), if_pos (by omega), h0, if_pos rfl, w64_succ p (by omega), hK]
    exact pads_l1 n x hn hx P hP d (p + 1) k (by omega) (by omega)
theorem pads_l0 (n : Nat) (hn : n < 4294967296) (P : List Int) (hP : P = padL n) :
    ∀ (d p k : Nat), p + d = P.length → P.length - 8 ≤ p → wicketmanlaw02_ShaPads.l0 (k + 200 + d + 1) (n : Int) P ((valN ((P.drop (P.length - 8)).take (p - (P.length - 8))) : Nat) : Int) (p : Int) = some true
  | 0, p, k, hp, h1 => by
    have hl := padL_len n
    rw [← hP] at hl
    obtain ⟨K, hK⟩ : ∃ K, K = k + 200 + 0 := ⟨_, rfl⟩
    rw [← hK]
    simp only [wicketmanlaw02_ShaPads.l0]
    rw [hK]
    have hd : P.drop (P.length - 8) = beN (8 * n) 8 := by
      rw [hP, padL_len]
      unfold padL
      rw [show 9 + (119 - n % 64) % 64 - 8 = (119 - n % 64) % 64 + 1 by omega, List.drop_succ_cons, List.drop_left' (by rw [List.length_replicate])]
    have hv : valN ((P.drop (P.length - 8)).take (p - (P.length - 8))) = 8 * n := by
      rw [hd, List.take_of_length_le (by rw [beN_length]; omega), valN_beN]
      exact Nat.mod_eq_of_lt (by omega)
    rw [if_neg (by omega), hv]
    have := pads_l1 n ((8 * n : Nat) : Int) hn rfl P hP (P.length - 8 - 1) 1 (k + 200 - (P.length - 8 - 1) - 1) (by omega) (by omega)
    rw [show k + 200 - (P.length - 8 - 1) - 1 + (P.length - 8 - 1) + 1 = k + 200 by omega] at this
    exact this
  | d + 1, p, k, hp, h1 => by
    have hl := padL_len n
    rw [← hP] at hl
    have hb : ∀ x ∈ P, 0 ≤ x ∧ x ≤ 255 := by rw [hP]; exact padL_bytes n
    obtain ⟨K, hK⟩ : ∃ K, K = k + 200 + d + 1 := ⟨_, rfl⟩
    rw [show k + 200 + (d + 1) + 1 = K + 1 by omega]
    simp only [wicketmanlaw02_ShaPads.l0]
    have hpl : p < P.length := by omega
    have hx := hb _ (rd_mem hpl)
    obtain ⟨q, hq⟩ : ∃ q, q = p - (P.length - 8) := ⟨_, rfl⟩
    have hv := valN_lt ((P.drop (P.length - 8)).take q) (fun x hx => hb x (List.mem_of_mem_drop (List.mem_of_mem_take hx)))
    have h7 : 256 ^ ((P.drop (P.length - 8)).take q).length ≤ 256 ^ 7 := Nat.pow_le_pow_right (by omega) (by rw [List.length_take]; omega)
    have htk : (P.drop (P.length - 8)).take (q + 1) = (P.drop (P.length - 8)).take q ++ [rd P (p : Int)] := by
      rw [List.take_succ_eq_append_getElem (by rw [List.length_drop]; omega), List.getElem_drop]
      congr 2
      have e : P.length - 8 + q = p := by omega
      simp [rd, List.getD_eq_getElem?_getD, hpl, e]
    have hsn := valN_snoc ((P.drop (P.length - 8)).take q) (rd P (p : Int))
    rw [← htk] at hsn
    rw [← hq]
    have e1 : IntKind.u64.wrap (256 * ((valN ((P.drop (P.length - 8)).take q) : Nat) : Int)) = ((256 * valN ((P.drop (P.length - 8)).take q) : Nat) : Int) := by rw [IntKind.wrap_u64]; omega
    have e2 : IntKind.u64.wrap (rd P (p : Int)) = rd P (p : Int) := by rw [IntKind.wrap_u64]; omega
    have e3 : IntKind.u64.wrap (((256 * valN ((P.drop (P.length - 8)).take q) : Nat) : Int) + rd P (p : Int)) = ((valN ((P.drop (P.length - 8)).take (q + 1)) : Nat) : Int) := by rw [IntKind.wrap_u64, hsn]; omega
    rw [if_pos (by omega), if_pos (by omega), e1, e2, e3, w64_succ p (by omega), hK]
    have := pads_l0 n hn P hP d (p + 1) k (by omega) (by omega)
    rw [show p + 1 - (P.length - 8) = q + 1 by omega] at this
    exact this
theorem ShaPads : wicketmanlaw02_ShaPads.Pure := by
  intro a0 h0
  have h := wf_u32 h0
  obtain ⟨n, rfl⟩ : ∃ n : Nat, a0 = (n : Int) := ⟨a0.toNat, by omega⟩
  have hn : n < 4294967296 := by omega
  refine ⟨300, ?_⟩
  have e1 : IntKind.u64.wrap (n : Int) = (n : Int) := by rw [IntKind.wrap_u64]; omega
  have hp9 := pad_some n (by omega)
  have hmono : ∀ j, sha_Pad.f (9 + j) (n : Int) = some (padL n) := by
    intro j
    induction j with
    | zero => exact hp9
    | succ j ih => exact sha_Pad.mono (n : Int) (9 + j) _ ih
  have hp := hmono 291
  obtain ⟨P, hP⟩ : ∃ P, P = padL n := ⟨_, rfl⟩
  have hl := padL_len n
  rw [← hP] at hl hp
  unfold wicketmanlaw02_ShaPads.f
  have hr : rd P 0 = 128 := by rw [hP]; rfl
  rw [e1, show (300 : Nat) = 9 + 291 from rfl, hp, Option.bind_some, if_neg (by omega), if_neg (by omega), if_pos (by omega), hr]
  show wicketmanlaw02_ShaPads.j0 (299 + 1) (n : Int) P false = some true
  obtain ⟨K, hK⟩ : ∃ K, K = 299 := ⟨_, rfl⟩
  rw [← hK]
  simp only [wicketmanlaw02_ShaPads.j0]
  rw [hK]
  have e2 : wrap64 ((P.length : Int) - 8) = ((P.length - 8 : Nat) : Int) := by unfold wrap64; omega
  rw [if_neg (by decide), e2]
  have := pads_l0 n hn P hP 8 (P.length - 8) 90 (by omega) (by omega)
  rw [Nat.sub_self, List.take_zero] at this
  exact this
theorem ShaPads_at (W : World) (a0 : Int) (w0 : (Lit.int .u32 a0).wf = true) (hG : RootsIn W) :
    Calls Tryd.prog 5 #[.int .u32 a0] W fun e w' => e = .returned (.bool true) ∧ Below W.heap.size W w' :=
  wicketmanlaw02_ShaPads.walk ShaPads a0 W w0 hG
end Go.Proofs.YtfmdpkilgnccfaaDoor.Pure
