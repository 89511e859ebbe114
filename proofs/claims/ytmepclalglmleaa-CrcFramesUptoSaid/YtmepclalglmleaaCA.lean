/- The document's All, by hand: it tells what allP tells; the rows are parts of what came in. -/
import Derived.Test.YtmepclalglmleaaC9
namespace Go.Proofs.Ytmepclalglmleaa.E
open Go.RowKit Go.Proofs.YtmepclalglmleaaW.PrintWords Go.Proofs.YtmepclalglmleaaW.PrintLast Go.Proofs.YtmepclalglmleaaW.PrintMore Go.Proofs.Ytmepclalglmleaa.Pr
set_option linter.unusedVariables false
set_option linter.unusedSimpArgs false
theorem info5b : (Try.prog.info? 5).map (fun i => (i.zero, i.size, i.bytes)) = some (some (.int .u8 0), 1, 1) := by kernel_rfl
theorem info22b : (Try.prog.info? 22).map (fun i => (i.zero, i.size, i.bytes)) = some (some (.slice none 0 0), 1, 24) := by kernel_rfl
theorem cut_lo {P : Program} (t e : TypeId) (kl : IntKind) (ht : P.underlying t = some (.slice e)) (A : Option Addr) (n c : Nat) (lo : Int) (h0 : 0 ≤ lo) (h2 : lo ≤ n) (hc : n ≤ c) {i : TypeInfo} (hi : P.info? e = some i) (hsz : i.size = 1) :
    ∀ W : World, (Instr.slice t (.slice A n c) (some (.int kl lo)) none none).run P W = .ok (.slice (if c = lo.toNat then A else A.map (·.add (lo.toNat * 1))) (n - lo.toNat) (c - lo.toNat)) W := by
  intro W
  have hel : P.elem t = e := by simp [Program.elem, ht]
  have hu : P.underlying t = some (.slice (P.elem t)) := by rw [hel]; exact ht
  rw [run_slice_l W t A n c hu kl lo h0 h2, hel]
  simp [sizeOf, typeInfo, hi, hsz, sliced, Result.andThen]
def rallP (w : World) (l : List Int) (s0 : Nat) (e : Ending) (w' : World) : Prop :=
  ∃ (A : Option Addr) (c : Nat), e = .returned (.tuple #[.slice A (allP (l.length + 1) l 0 s0).length c, .int .i64 (endOf (allP (l.length + 1) l 0 s0) : Int)]) ∧ (allP (l.length + 1) l 0 s0).length ≤ c ∧
    Kd.C (Kd.slice 5 (Kd.int .u8)) w' A (allP (l.length + 1) l 0 s0).length ((allP (l.length + 1) l 0 s0).map (·.1)) ∧ Below w.heap.size w w'
theorem rall_end {w w' : World} {l : List Int} {s0 p : Nat} {pre : List (List Int × Nat)} {A : Option Addr} {c : Nat} (hpre : pre = allP (l.length + 1) l 0 s0) (hp : p = endOf pre) (hb : Below w.heap.size w w')
    (hR : Kd.R (Kd.fixed (Kd.slice 5 (Kd.int .u8)) w) 22 w' w.heap.size (fun _ => True) (.slice A pre.length c) (pre.map (·.1))) : rallP w l s0 (.returned (.tuple #[.slice A pre.length c, .int .i64 (p : Int)])) w' := by
  subst hpre; subst hp
  obtain ⟨A', c', he, hl, hC⟩ := Kd.R_reads hR
  injection he with h1 h2 h3
  subst h1; subst h3
  rw [List.length_map] at hl hC
  refine ⟨_, _, rfl, hl, ?_, hb⟩
  exact hC.imp_ (Below.refl _ _) (fun x cs h => Kd.K_below (Kd.slice 5 (Kd.int .u8)) hb h)
set_option maxRecDepth 100000 in
set_option maxHeartbeats 4000000 in
theorem rall_any (A0 : Option Addr) (c0 : Nat) (xs : List Int) (s0 : Nat) (w : World) (hC : Kd.C (Kd.int .u8) w A0 xs.length xs) (hc : xs.length ≤ c0) (hlen : xs.length ≤ 1000000) (hall : ∀ x ∈ xs, 0 ≤ x ∧ x ≤ 255) (hs0 : s0 < 18446744073709551616) :
    Calls Try.prog 46 #[.slice A0 xs.length c0, .int .u64 (s0 : Int)] w (rallP w xs s0) := by
  obtain ⟨i0, hi0, hz0, hz1, hz2⟩ := info_parts info5b
  have HC := Aside0.mk hC
  have HALL := Aside0.mk hall
  obtain ⟨L, hL⟩ : ∃ L, L = xs.length := ⟨_, rfl⟩
  have HL := Aside0.mk hL
  rw [← hL] at hlen hc ⊢
  clear hC hall hL
  go_enter Try.func46, Try.ntmps46
  go_wp2
  go_loopw [1, 6, 7] (fun v1 v6 v7 wr => ∃ (k p s : Nat) (pre : List (List Int × Nat)) (A : Option Addr) (c : Nat), v1 = .int .u64 (s : Int) ∧ v6 = .slice A pre.length c ∧ v7 = .int .i64 (p : Int) ∧ p ≤ L ∧ s < 18446744073709551616 ∧
      Aside0 (L + 1 ≤ k + p ∧ pre ++ allP k xs p s = allP (L + 1) xs 0 s0 ∧ p = endOf pre ∧ pre.length ≤ p ∧ Below w.heap.size w wr ∧ Kd.R (Kd.fixed (Kd.slice 5 (Kd.int .u8)) w) 22 wr w.heap.size (fun _ => True) (.slice A pre.length c) (pre.map (·.1)))) (fun _ _ v7 _ => L - (intOf v7).toNat)
  case atStart => exact ⟨L + 1, 0, s0, [], none, 0, rfl, rfl, rfl, Nat.zero_le _, hs0, ⟨by omega, rfl, rfl, Nat.le_refl _, Below.refl _ _, Kd.R_nil _ _ _ _ _⟩⟩
  case round =>
    obtain ⟨k, p, s, pre, A, c, rfl, rfl, rfl, hp, hs, hh⟩ := hrel
    obtain ⟨⟨hk, hpre, hend, hplen, hbw, hR⟩⟩ := hh
    have HPRE := Aside0.mk hpre
    have HEND := Aside0.mk hend
    have HBR := Aside0.mk hbw
    have HR := Aside0.mk hR
    obtain ⟨k', rfl⟩ : ∃ k', k = k' + 1 := ⟨k - 1, by omega⟩
    have hdl : (xs.drop p).length = L - p := by rw [List.length_drop, HL.out]
    have hdb : ∀ x ∈ xs.drop p, 0 ≤ x ∧ x ≤ 255 := fun x hx => HALL.out x (List.mem_of_mem_drop hx)
    have hap : allP (k' + 1) xs p s = if (nextL (xs.drop p)).2.2 = 0 ∨ (nextL (xs.drop p)).1 ≠ (s : Int) then [] else ((nextL (xs.drop p)).2.1, p + (nextL (xs.drop p)).2.2.toNat) :: allP k' xs (p + (nextL (xs.drop p)).2.2.toNat) ((s + 1) % 18446744073709551616) := by rw [allP]
    have HSH := Aside0.mk (nextL_shape (xs.drop p))
    obtain ⟨⟨r1, r2, r3⟩, hr⟩ : ∃ r, r = nextL (xs.drop p) := ⟨_, rfl⟩
    rw [← hr] at hap HSH
    -- the cut that is asked
    obtain ⟨Ap, hAp⟩ : ∃ Ap, Ap = (if c0 = p then A0 else A0.map (·.add (p * 1))) := ⟨_, rfl⟩
    have hsl := cut_lo (P := Try.prog) 22 5 .i64 Try.underlying22 A0 L c0 (p : Int) (by omega) (by omega) hc hi0 hz1
    rw [Int.toNat_natCast, ← hAp] at hsl
    have hCp : ∀ W : World, Kd.C (Kd.int .u8) W A0 xs.length xs → Kd.C (Kd.int .u8) W Ap (xs.drop p).length (xs.drop p) := by
      intro W h
      rw [hAp]; exact Kd.C_drop h (by rw [← HL.out]; exact hp) (by rw [← HL.out]; exact hc)
    have hcp : L - p ≤ c0 - p := by omega
    clear hAp
    have hnx := fun (W : World) (hW : Below w.heap.size w W) => rnext_any Ap (c0 - p) (xs.drop p) W (Kd.C_below (hCp _ HC.out) hW) (by rw [hdl]; exact hcp) (by rw [hdl]; omega) hdb
    rw [hdl] at hnx
    have HNX := Aside0.mk (hnx wr hbw)
    have HR3 := Aside0.mk hr
    have HAP := Aside0.mk hap
    have HCP := Aside0.mk hCp
    clear hpre hend hbw hR hdl hdb hap hr hCp hnx hcp
    go_wp2_with (go_at_call 45; ((with_reducible refine (HNX.out).mono ?_)))
    rintro e w1 ⟨A1, c1, rfl, hl1, hC1, hb1⟩
    rw [← HR3.out] at hl1 hC1 ⊢
    have HL1 := Aside0.mk hl1
    have HC1 := Aside0.mk (hC1 w (HCP.out w HC.out))
    have HB1 := Aside0.mk (HBR.out.trans (hb1.mono HBR.out.size))
    have HR1 := Aside0.mk (Kd.R_below HR.out hb1)
    clear hl1 hC1 hb1
    by_cases h30 : r3 = 0
    · have hfin : pre = allP (L + 1) xs 0 s0 := by rw [← HPRE.out, HAP.out, if_pos (Or.inl h30), List.append_nil]
      have HF := Aside0.mk hfin
      subst h30
      clear hfin
      go_wp2
      go_ret2
      exact HL.out ▸ rall_end (HL.out ▸ HF.out) HEND.out HB1.out HR1.out
    · have h30b : (r3 == 0) = false := beq_eq_false_iff_ne.2 h30
      by_cases h1s : r1 = (s : Int)
      · obtain ⟨m, hm16, hml, rfl⟩ := HSH.out.resolve_left h30
        clear h30
        subst h1s
        rw [List.length_drop, ← HL.out] at hml
        have hs1 : IntKind.u64.wrap ((s : Int) + 1) = (((s + 1) % 18446744073709551616 : Nat) : Int) := by rw [IntKind.wrap_u64]; omega
        have hpm : IntKind.i64.wrap ((p : Int) + (m : Int)) = ((p + m : Nat) : Int) := by have : IntKind.i64.wrap ((p : Int) + (m : Int)) = (p : Int) + (m : Int) := IntWalk.i64_in _ (by omega); omega
        go_wp2_with (at_builtin; go_loud (refine Kd.R_append (Kd.fixed (Kd.slice 5 (Kd.int .u8)) w) (w0 := w) w.heap.size rfl (.tmp 28) (.tmp 30) 48 22 (.slice none 0 0) 24 rfl Try.underlying48 info22b rfl Nat.one_pos (by decide) (.slice A pre.length c) (pre.map (·.1)) r2 [.slice A1 r2.length c1] (fun _ => True) (fun _ => False) rfl rfl ⟨A1, c1, rfl, HL1.out, HC1.out⟩ (fun _ hk => hk.elim) (fun _ _ => trivial) HR1.out HB1.out HB1.out.size (by rw [List.length_map]; omega) ?_); intro v2 w2 hR2 hb2 _ _; obtain ⟨A2, c2, rfl⟩ := Kd.R_slice hR2; rw [show (pre.map (·.1) ++ [r2]).length = pre.length + 1 by simp] at hR2 ⊢; have HR2 := Aside0.mk hR2; have HB2 := Aside0.mk hb2; clear hR2 hb2)
        go_roundw
        case rel =>
          have hsn : (pre ++ [(r2, p + m)]).length = pre.length + 1 := by simp
          refine ⟨k', p + m, (s + 1) % 18446744073709551616, pre ++ [(r2, p + m)], A2, c2, by first | rfl | (congr 1; omega), by rw [hsn], by first | rfl | (congr 1), by omega, Nat.mod_lt _ (by decide), ⟨by omega, ?_, by simp [endOf], by rw [hsn]; omega, HB2.out, ?_⟩⟩
          · rw [← HPRE.out, HAP.out, if_neg (by omega), Int.toNat_natCast, List.append_assoc]
            rfl
          · rw [hsn, List.map_append]; exact HR2.out
        case measure => simp [intOf]; omega
      · have h1b : (r1 != (s : Int)) = true := bne_iff_ne.2 h1s
        have hfin : pre = allP (L + 1) xs 0 s0 := by rw [← HPRE.out, HAP.out, if_pos (Or.inr h1s), List.append_nil]
        have HF := Aside0.mk hfin
        clear hfin h1s h30
        go_wp2
        go_ret2
        exact HL.out ▸ rall_end (HL.out ▸ HF.out) HEND.out HB1.out HR1.out
end Go.Proofs.Ytmepclalglmleaa.E
