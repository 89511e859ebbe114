/- The law's reads, by hand: it is true of all bytes. -/
import Derived.Test.YtmepclalglmleaaCA
import Derived.Test.YtmepclalglmleaaC8
namespace Go.Proofs.Ytmepclalglmleaa.E
open Go.RowKit Go.Proofs.YtmepclalglmleaaW.PrintWords Go.Proofs.YtmepclalglmleaaW.PrintLast Go.Proofs.YtmepclalglmleaaW.PrintMore Go.Proofs.Ytmepclalglmleaa.Pr
set_option linter.unusedVariables false
set_option linter.unusedSimpArgs false
set_option maxRecDepth 100000 in
set_option maxHeartbeats 4000000 in
theorem reads_any (A0 : Option Addr) (c0 : Nat) (xs : List Int) (s0 : Nat) (w : World) (hC : Kd.C (Kd.int .u8) w A0 xs.length xs) (hc : xs.length ≤ c0) (hlen : xs.length ≤ 1000000) (hall : ∀ x ∈ xs, 0 ≤ x ∧ x ≤ 255) (hs0 : s0 < 18446744073709551616) :
    Calls Try.prog 32 #[.slice A0 xs.length c0, .int .u64 (s0 : Int)] w fun e w' => e = .returned (.bool true) ∧ Below w.heap.size w w' := by
  obtain ⟨⟨r1, r2, r3⟩, hr⟩ : ∃ r, r = nextL xs := ⟨_, rfl⟩
  obtain ⟨P, hP⟩ : ∃ P, P = allP (xs.length + 1) xs 0 s0 := ⟨_, rfl⟩
  have k1 := crc_Next.calls A0 c0 xs r1 r2 r3 w hC hc (by unfold crc_Next.f; rw [if_pos ⟨by omega, hall⟩, ← hr])
  have k2 : ∀ W, Below w.heap.size w W → Calls Try.prog 45 #[.slice A0 xs.length c0] W fun e w' => ∃ (A : Option Addr) (c : Nat), e = .returned (.tuple #[.int .u64 r1, .slice A r2.length c, .int .i64 r3]) ∧ r2.length ≤ c ∧ (∀ W : World, Kd.C (Kd.int .u8) W A0 xs.length xs → Kd.C (Kd.int .u8) W A r2.length r2) ∧ Below W.heap.size W w' := by
    intro W hW
    have := rnext_any A0 c0 xs W (Kd.C_below hC hW) hc hlen hall
    unfold rnextP at this
    rw [← hr] at this
    exact this
  have k3 : ∀ W, Below w.heap.size w W → Calls Try.prog 33 #[.slice A0 xs.length c0, .int .u64 (s0 : Int)] W fun e w' => ∃ v0_ : Value, e = .returned (.tuple #[v0_, .int .i64 (endOf P : Int)]) ∧ Kd.R (Kd.slice 5 (Kd.int .u8)) 22 w' W.heap.size (fun _ => True) v0_ (P.map (·.1)) ∧ Below W.heap.size W w' := by
    intro W hW
    have := crc_All.calls A0 c0 xs (s0 : Int) (P.map (·.1)) (endOf P : Int) W (Kd.C_below hC hW) hc (by unfold crc_All.f; rw [if_pos ⟨hlen, hall, by omega, by omega⟩, Int.toNat_natCast, hP])
    exact this
  have k4 : ∀ W, Below w.heap.size w W → Calls Try.prog 46 #[.slice A0 xs.length c0, .int .u64 (s0 : Int)] W fun e w' => ∃ (A : Option Addr) (c : Nat), e = .returned (.tuple #[.slice A P.length c, .int .i64 (endOf P : Int)]) ∧ P.length ≤ c ∧ Kd.C (Kd.slice 5 (Kd.int .u8)) w' A P.length (P.map (·.1)) ∧ Below W.heap.size W w' := by
    intro W hW
    have := rall_any A0 c0 xs s0 W (Kd.C_below hC hW) hc hlen hall hs0
    unfold rallP at this
    rw [← hP] at this
    exact this
  have K1 := Aside0.mk k1
  have K2 := Aside0.mk k2
  have K3 := Aside0.mk k3
  have K4 := Aside0.mk k4
  have HC := Aside0.mk hC
  clear k1 k2 k3 k4 hC hr hP hall
  obtain ⟨L, hL⟩ : ∃ L, L = xs.length := ⟨_, rfl⟩
  have hm := Kd.C_max HC.out
  have HL := Aside0.mk hL
  rw [← hL] at K1 K2 K3 K4 ⊢
  clear hL hm
  go_enter Try.func32, Try.ntmps32
  go_wp2_with (go_at_call 26; ((with_reducible refine (K1.out).mono ?_)))
  rintro e w1 ⟨v1, rfl, hR1, hb1⟩
  obtain ⟨A1, c1, rfl, hl1, hC1⟩ := Kd.R_reads hR1
  have HB1 := Aside0.mk hb1
  have HC1 := Aside0.mk hC1
  clear hR1 hb1 hC1
  go_wp2_with (go_at_call 45; ((with_reducible refine (K2.out _ HB1.out).mono ?_)))
  rintro e w2 ⟨A2, c2, rfl, hl2, hC2, hb2⟩
  have HB2 := Aside0.mk (below_step HB1.out hb2)
  have HC2 := Aside0.mk (Kd.C_below (hC2 w (by rw [HL.out]; exact HC.out)) HB2.out)
  have HC12 := Aside0.mk (Kd.C_below HC1.out hb2)
  clear hb2 hC2 HB1 HC1
  go_wp2_with (go_at_call 33; ((with_reducible refine (K3.out _ HB2.out).mono ?_)))
  rintro e w3 ⟨v3, rfl, hR3, hb3⟩
  obtain ⟨A3, c3, rfl, hl3, hC3⟩ := Kd.R_reads hR3
  rw [List.length_map] at hl3 hC3 ⊢
  have HB3 := Aside0.mk (below_step HB2.out hb3)
  have HC23 := Aside0.mk (Kd.C_below HC2.out hb3)
  have HC13 := Aside0.mk (Kd.C_below HC12.out hb3)
  have HC33 := Aside0.mk hC3
  clear hR3 hb3 hC3 HB2 HC2 HC12
  go_wp2_with (go_at_call 46; ((with_reducible refine (K4.out _ HB3.out).mono ?_)))
  rintro e w4 ⟨A4, c4, rfl, hl4, hC4, hb4⟩
  have HB4 := Aside0.mk (below_step HB3.out hb4)
  have hs1 := Kd.C_string (P := Try.prog) (c := c1) Try.underlying22 Try.underlying5 Try.underlying9 (Kd.C_below HC13.out hb4)
  have hs2 := Kd.C_string (P := Try.prog) (c := c2) Try.underlying22 Try.underlying5 Try.underlying9 (Kd.C_below HC23.out hb4)
  have hml : (P.map (·.1)).length = P.length := List.length_map ..
  have k5 := same_any A3 A4 c3 c4 (P.map (·.1)) w4 (by rw [hml]; exact Kd.C_below HC33.out hb4) (by rw [hml]; exact hC4)
  rw [hml] at k5
  have K5 := Aside0.mk k5
  clear hb4 hC4 HB3 HC23 HC13 HC33 hml k5
  go_wp2_with (go_at_call 34; ((with_reducible refine (K5.out).mono ?_); rintro e w5 ⟨rfl, hb5⟩); have HB5 := Aside0.mk (below_step HB4.out hb5); clear hb5)
  go_ret
  exact ⟨rfl, HB5.out⟩
def wicketmanlaw13_reads.f (l0 : List Int) (a1 : Int) : Option Bool := if l0.length ≤ 1000000 ∧ (∀ x ∈ l0, 0 ≤ x ∧ x ≤ 255) ∧ 0 ≤ a1 ∧ a1 < 18446744073709551616 then some true else none
theorem wicketmanlaw13_reads.calls (A0 : Option Addr) (c0 : Nat) (l0 : List Int) (a1 : Int) (r : Bool) (w : World) (hr0 : Kd.C (Kd.int .u8) w A0 l0.length l0) (hc0 : l0.length ≤ c0) (h : wicketmanlaw13_reads.f l0 a1 = some r) :
    Calls Try.prog 32 #[.slice A0 l0.length c0, .int .u64 a1] w fun e w' => e = .returned (.bool r) ∧ Below w.heap.size w w' := by
  unfold wicketmanlaw13_reads.f at h
  split at h
  · rename_i h2
    obtain ⟨hl, hall, h0, h1⟩ := h2
    obtain rfl := Option.some.inj h
    have := reads_any A0 c0 l0 a1.toNat w hr0 hc0 hl hall (by omega)
    rwa [Int.toNat_of_nonneg h0] at this
  · exact absurd h (by simp)
end Go.Proofs.Ytmepclalglmleaa.E
