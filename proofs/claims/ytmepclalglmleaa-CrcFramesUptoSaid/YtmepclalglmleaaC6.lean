/- crc.each and crc.All by hand. -/
import Derived.Test.YtmepclalglmleaaC5
import Derived.Test.YtmepclalglmleaaRF
import Derived.WalkMore
namespace Go.Proofs.Ytmepclalglmleaa.E
open Go.RowKit Go.Shelf Go.Proofs.YtmepclalglmleaaW.PrintWords Go.Proofs.YtmepclalglmleaaW.PrintLast Go.Proofs.YtmepclalglmleaaW.PrintMore Go.Proofs.Ytmepclalglmleaa.Pr
attribute [local go_sem] Oper.semAt_some
set_option linter.unusedVariables false
set_option linter.unusedSimpArgs false
/-- The frames, each with where it ends. -/
def allP : Nat → List Int → Nat → Nat → List (List Int × Nat)
  | 0, _, _, _ => []
  | k + 1, l, p, s => if (nextL (l.drop p)).2.2 = 0 ∨ (nextL (l.drop p)).1 ≠ (s : Int) then [] else ((nextL (l.drop p)).2.1, p + (nextL (l.drop p)).2.2.toNat) :: allP k l (p + (nextL (l.drop p)).2.2.toNat) ((s + 1) % 18446744073709551616)
theorem nextL_shape (l : List Int) : (nextL l).2.2 = 0 ∨ ∃ m : Nat, 16 ≤ m ∧ m ≤ l.length ∧ (nextL l).2.2 = (m : Int) := by
  unfold nextL
  split
  · exact .inl rfl
  · split
    · exact .inl rfl
    · split
      · exact .inl rfl
      · rename_i h1 h2 h3
        exact .inr ⟨16 + valN (l.take 4), by omega, by omega, rfl⟩
def St (qs : Nat) (X Y : World) : Prop := ∃ row, X.grownBy Y row ∧ ∀ r, row = some r → r = qs
def Kp (n₀ qb qs : Nat) (X Y : World) : Prop := Below n₀ X Y ∧ Y.heap[qb]? = X.heap[qb]? ∧ Y.heap[qs]? = X.heap[qs]?
def enc (n₀ qb qs : Nat) (x : List Int × Nat) (X : World) (vs : Array Value) : Prop := ∃ A c, vs = #[.slice A x.1.length c, .int .i64 (x.2 : Int)] ∧ Kd.R (Kd.int .u8) 5 X n₀ (fun k => k ≠ qb ∧ k ≠ qs) (.slice A x.1.length c) x.1
theorem St.of_below {qs : Nat} {X Y : World} (h : Below X.heap.size X Y) : St qs X Y := ⟨none, ⟨h.os, h.tape, h.output, h.size, fun k hk _ => h.block k hk⟩, fun _ e => by cases e⟩
set_option maxRecDepth 100000 in
set_option maxHeartbeats 4000000 in
theorem each53 (l qb qs : Nat) (ad : Addr) (c : Nat) (xs : List Int) (s0 : Nat) (w : World) (hC : Kd.C (Kd.int .u8) w (some ad) xs.length xs) (hc : xs.length ≤ c) (hlen : xs.length ≤ 140737488351232) (hall : ∀ x ∈ xs, 0 ≤ x ∧ x ≤ 255) (hs0 : s0 < 18446744073709551616)
    (hqb : w.heap.size ≤ qb) (hqs : w.heap.size ≤ qs) (hne : qb ≠ qs) (K : List (List Int × Nat) → World → Prop) (hKS : ∀ s X Y, K s X → St qs X Y → K s Y)
    (hY : ∀ s x X vs, s ++ [x] <+: allP (xs.length + 1) xs 0 s0 → K s X → enc w.heap.size qb qs x X vs → YieldAt Fence.wide 1 Try.prog l vs X fun e Y => e = .returned (.bool true) ∧ K (s ++ [x]) Y ∧ Kp w.heap.size qb qs X Y)
    (W : World) (h0 : K [] W) (hBW : Below w.heap.size w W) (hb : W.heap[qb]? = some (.cells #[.slice (some ad) xs.length c] 22 (0, 0))) (hs : W.heap[qs]? = some (.cells #[.int .u64 (s0 : Int)] 35 (0, 0))) :
    CallsIn Fence.wide 2 Try.prog 53 #[.func (.yield l) #[] #[], .pointer (some ⟨qb, 0, none⟩), .pointer (some ⟨qs, 0, none⟩)] W fun e W' => (∃ v, e = .returned v) ∧ ∃ s, s = allP (xs.length + 1) xs 0 s0 ∧ K s W' := by
  refine callsIn_of_wp Try.func53 rfl trivial ?_ rfl
  simp only [Try.ntmps53, List.size_toArray, List.length_cons, List.length_nil, Nat.reduceAdd, Nat.reduceSub, Array.replicate_succ, Array.replicate_zero, List.push_toArray, List.append_toArray, List.nil_append, List.cons_append]
  have HC := Aside0.mk hC
  have HALL := Aside0.mk hall
  have HBW := Aside0.mk hBW
  have HB := Aside0.mk hb
  have HS := Aside0.mk hs
  clear hC hall hBW hb hs
  refine wpIn_wide.2 (wp_scope_straight ((wpIn_wide (n := 2)).1 ?_))
  gi_wp2
  refine wpIn_wide.2 (wp_label ?_)
  gi_wp2
  gi_loopw [4] (fun v4 wr => ∃ (k p s : Nat) (pre : List (List Int × Nat)), v4 = .int .i64 (p : Int) ∧ p ≤ xs.length ∧ s < 18446744073709551616 ∧ Aside0 (xs.length + 1 ≤ k + p ∧ pre ++ allP k xs p s = allP (xs.length + 1) xs 0 s0 ∧ K pre wr ∧ Below w.heap.size w wr ∧
      wr.heap[qb]? = some (.cells #[.slice (some ad) xs.length c] 22 (0, 0)) ∧ wr.heap[qs]? = some (.cells #[.int .u64 (s : Int)] 35 (0, 0)))) (fun v4 _ => xs.length - (intOf v4).toNat)
  case atStart => exact ⟨xs.length + 1, 0, s0, [], rfl, Nat.zero_le _, hs0, ⟨by omega, rfl, h0, HBW.out, HB.out, HS.out⟩⟩
  case round =>
    obtain ⟨k, p, s, pre, rfl, hp, hs, hh⟩ := hrel
    obtain ⟨⟨hk, hpre, hK, hbw, hqb', hqs'⟩⟩ := hh
    have cb : wr.cell? ⟨qb, 0, none⟩ = some (.slice (some ad) xs.length c) := blk_cell hqb' 0
    have cs : wr.cell? ⟨qs, 0, none⟩ = some (.int .u64 (s : Int)) := blk_cell hqs' 0
    have fs : wr.frozen? ⟨qs, 0, none⟩ = false := blk_frozen hqs' 0
    have HK := Aside0.mk hK
    have HPRE := Aside0.mk hpre
    have HBR := Aside0.mk hbw
    have HQB := Aside0.mk hqb'
    have HQS := Aside0.mk hqs'
    have hsub := C_sub HC.out p (xs.length - p) (by omega)
    rw [List.take_of_length_le (by rw [List.length_drop]; omega)] at hsub
    have HSUB := Aside0.mk (Kd.C_below hsub hbw)
    have HNX := Aside0.mk (show crc_Next.f (xs.drop p) = some ((nextL (xs.drop p)).1, (nextL (xs.drop p)).2.1, (nextL (xs.drop p)).2.2) from by
      unfold crc_Next.f
      rw [if_pos ⟨by rw [List.length_drop]; omega, fun x hx => HALL.out x (List.mem_of_mem_drop hx)⟩])
    have HSH := Aside0.mk (nextL_shape (xs.drop p))
    obtain ⟨r, hr⟩ : ∃ r, r = nextL (xs.drop p) := ⟨_, rfl⟩
    have HR := Aside0.mk hr
    rw [← hr] at HNX HSH
    obtain ⟨r1, r2, r3⟩ := r
    have hdl : (xs.drop p).length = xs.length - p := List.length_drop ..
    have key : ∀ A' c', ((p = c ∧ A' = some ad ∧ c' = 0) ∨ (p ≠ c ∧ A' = some (ad.add p) ∧ c' = c - p)) → Calls Try.prog 26 #[.slice A' (xs.length - p) c'] wr fun e w' => ∃ v1_ : Value, e = .returned (.tuple #[.int .u64 r1, v1_, .int .i64 r3]) ∧ Kd.R (Kd.int .u8) 5 w' wr.heap.size (fun _ => True) v1_ r2 ∧ Below wr.heap.size wr w' := by
      rintro A' c' (⟨h1, rfl, rfl⟩ | ⟨h1, rfl, rfl⟩)
      · have h2 : xs.length - p = 0 := by omega
        have h3 : xs.drop p = [] := List.drop_eq_nil_of_le (by omega)
        have := crc_Next.calls (some ad) 0 [] r1 r2 r3 wr (Kd.C_empty _ _) (Nat.le_refl _) (by rw [← h3]; exact HNX.out)
        rw [h2]; exact this
      · exact hdl ▸ crc_Next.calls (some (ad.add p)) (c - p) (xs.drop p) r1 r2 r3 wr (hdl ▸ HSUB.out) (by rw [hdl]; omega) HNX.out
    clear hK hpre hbw hqb' hqs' hsub hr
    by_cases hpc : p = c
    · have hxp : xs.length - p = 0 := by omega
      have HSL := Aside0.mk (hxp ▸ key (some ad) 0 (.inl ⟨hpc, rfl, rfl⟩))
      clear key
      have hpx : xs.length = c := by omega
      have hr3 : r3 = 0 := by
        have h2 : xs.drop p = [] := List.drop_eq_nil_of_le (by omega)
        have h3 := HR.out
        rw [h2] at h3
        exact congrArg (fun x => x.2.2) h3
      have hallp : allP k xs p s = [] := by
        obtain ⟨k', rfl⟩ : ∃ k', k = k' + 1 := ⟨k - 1, by omega⟩
        unfold allP
        rw [← HR.out, if_pos (Or.inl hr3)]
      have HAP := Aside0.mk hallp
      clear hallp
      subst hr3
      gi_wp2
      refine ⟨trivial, (callsIn_wide.2 HSL.out).mono ?_⟩
      rintro e w1 ⟨v1, rfl, hv1, hb1⟩
      have HK1 := Aside0.mk (hKS _ _ _ HK.out (St.of_below hb1))
      clear hv1 hb1
      gi_wp2
      rw [Exit.noGoto_normal]
      go_end0
      exact ⟨⟨_, rfl⟩, pre, by rw [← HPRE.out, HAP.out, List.append_nil], HK1.out⟩
    · have HSL := Aside0.mk (key _ _ (.inr ⟨hpc, rfl, rfl⟩))
      clear key
      gi_wp2
      refine ⟨trivial, (callsIn_wide.2 HSL.out).mono ?_⟩
      rintro e w1 ⟨v1, rfl, hv1, hb1⟩
      obtain ⟨A1, c1, rfl⟩ := Kd.R_slice hv1
      have HK1 := Aside0.mk (hKS _ _ _ HK.out (St.of_below hb1))
      have HBR1 := Aside0.mk (HBR.out.trans (hb1.mono HBR.out.size))
      have hq1 := (hb1.block qs (Array.getElem?_eq_some_iff.1 HQS.out).1).trans HQS.out
      have hq2 := (hb1.block qb (Array.getElem?_eq_some_iff.1 HQB.out).1).trans HQB.out
      have hqlt := (Array.getElem?_eq_some_iff.1 HQS.out).1
      have hqlt2 := (Array.getElem?_eq_some_iff.1 HQB.out).1
      have HV1 := Aside0.mk (Kd.R_mono (ok' := fun k => k ≠ qb ∧ k ≠ qs) (Kd.R_lower (Kd.R_bound hv1) HBR.out.size) (fun k hk => by have := hk.2.1; omega))
      have cs1 : w1.cell? ⟨qs, 0, none⟩ = some (.int .u64 (s : Int)) := blk_cell hq1 0
      have fs1 : w1.frozen? ⟨qs, 0, none⟩ = false := blk_frozen hq1 0
      have HQS1 := Aside0.mk hq1
      have HQB1 := Aside0.mk hq2
      clear cb cs fs hv1 hb1 hq1 hq2 hqlt hqlt2
      have fin : allP k xs p s = [] → ∃ s, s = allP (xs.length + 1) xs 0 s0 ∧ K s w1 := fun h => ⟨pre, by rw [← HPRE.out, h, List.append_nil], HK1.out⟩
      have FIN := Aside0.mk fin
      clear fin
      obtain ⟨k', rfl⟩ : ∃ k', k = k' + 1 := ⟨k - 1, by omega⟩
      have HAP := Aside0.mk (show allP (k' + 1) xs p s = if r3 = 0 ∨ r1 ≠ (s : Int) then [] else (r2, p + r3.toNat) :: allP k' xs (p + r3.toNat) ((s + 1) % 18446744073709551616) from by rw [allP, ← HR.out])
      by_cases h30 : r3 = 0
      · subst h30
        gi_wp2
        rw [Exit.noGoto_normal]
        go_end0
        exact ⟨⟨_, rfl⟩, FIN.out (by rw [HAP.out, if_pos (Or.inl trivial)])⟩
      · have h30b : (r3 == 0) = false := beq_eq_false_iff_ne.2 h30
        by_cases h1s : r1 = (s : Int)
        · have HH := Aside0.mk h30
          subst h1s
          obtain ⟨m, hm16, hml, rfl⟩ := HSH.out.resolve_left h30
          clear h30
          rw [List.length_drop] at hml
          have hs1 : IntKind.u64.wrap ((s : Int) + 1) = (((s + 1) % 18446744073709551616 : Nat) : Int) := by rw [IntKind.wrap_u64]; omega
          gi_wp2
          gi_region
          rw [show ((s : Int) + 1) % 18446744073709551616 = (((s + 1) % 18446744073709551616 : Nat) : Int) by omega]
          obtain ⟨s', hs', hsl'⟩ : ∃ s' : Nat, s' = (s + 1) % 18446744073709551616 ∧ s' < 18446744073709551616 := ⟨_, rfl, Nat.mod_lt _ (by decide)⟩
          rw [← hs'] at hs1 ⊢
          have HS1 := Aside0.mk hs'
          clear hs' hs1
          obtain ⟨w2, hw2⟩ : ∃ w2, w2 = (w1.setCell ⟨qs, 0, none⟩ (.int .u64 (s' : Int))).drew := ⟨_, rfl⟩
          have hst : St qs w1 w2 := by
            rw [hw2]
            have h := grownBy_setCell' w1 qs (.int .u64 (s' : Int))
            exact ⟨some qs, ⟨h.os, h.tape, h.output, h.size, h.block⟩, fun r e => by cases e; rfl⟩
          have HK2 := Aside0.mk (hKS _ _ _ HK1.out hst)
          have HV2 := Aside0.mk (show Kd.R (Kd.int .u8) 5 w2 w.heap.size (fun k => k ≠ qb ∧ k ≠ qs) (.slice A1 r2.length c1) r2 from by
            rw [hw2]; exact Kd.R_drew (Kd.R_set HV1.out HQS1.out (by simp [Kd.int, Kd.scalar]) 0 (.int .u64 (s' : Int))))
          have HQS2 := Aside0.mk (show w2.heap[qs]? = some (.cells #[.int .u64 (s' : Int)] 35 (0, 0)) from by
            rw [hw2]; have h := blk_set HQS1.out 0 (.int .u64 (s' : Int)); simp only [Array.setIfInBounds, List.size_toArray, List.length_cons, List.length_nil] at h; exact h)
          have HBR2 := Aside0.mk (show Below w.heap.size w w2 from by rw [hw2]; exact (HBR1.out.setCell (p := ⟨qs, 0, none⟩) hqs (.int .u64 (s' : Int))).drew)
          have HQB2 := Aside0.mk (show w2.heap[qb]? = some (.cells #[.slice (some ad) xs.length c] 22 (0, 0)) from by rw [hw2]; exact (Below.heap_setCell w1 ⟨qs, 0, none⟩ (.int .u64 (s' : Int)) qb hne).trans HQB1.out)
          (try rw [← hw2])
          clear hw2 hst cs1 fs1
          obtain ⟨fn, tmps, assign, body, hy, hR⟩ := hY pre (r2, p + m) w2 _ ⟨_, by rw [List.append_assoc, ← HPRE.out, HAP.out, if_neg (by omega), Int.toNat_natCast]; rfl⟩ HK2.out ⟨A1, c1, rfl, HV2.out⟩
          have HR2 := Aside0.mk hR
          clear hR
          dsimp only at hy
          rw [show ((p + m : Nat) : Int) = (p : Int) + (m : Int) by omega] at hy
          gi_wp2
          refine HR2.out.mono ?_
          rintro e w3 ⟨rfl, hk3, hkp⟩
          have HK3 := Aside0.mk hk3
          have HKP := Aside0.mk hkp
          clear hk3 hkp HR2
          gi_wp2
          go_roundw
          case rel =>
            refine ⟨k', p + m, s', pre ++ [(r2, p + m)], by rw [show ((p + m : Nat) : Int) = (p : Int) + (m : Int) by omega], by omega, hsl', ⟨by omega, ?_, HK3.out, HBR2.out.trans HKP.out.1, HKP.out.2.1.trans HQB2.out, HKP.out.2.2.trans HQS2.out⟩⟩
            rw [← HPRE.out, HAP.out, if_neg (by omega), Int.toNat_natCast, HS1.out, List.append_assoc]
            rfl
          case measure => simp [intOf]; omega
        · have h1b : (r1 != (s : Int)) = true := bne_iff_ne.2 h1s
          have HH := Aside0.mk h1s
          clear h30 h1s
          gi_wp2
          rw [Exit.noGoto_normal]
          go_end0
          exact ⟨⟨_, rfl⟩, FIN.out (by rw [HAP.out, if_pos (Or.inr HH.out)])⟩
set_option maxRecDepth 100000 in
set_option maxHeartbeats 4000000 in
theorem each53n (l qb qs : Nat) (c : Nat) (s0 : Nat) (w : World) (K : List (List Int × Nat) → World → Prop) (hKS : ∀ s X Y, K s X → St qs X Y → K s Y)
    (W : World) (h0 : K [] W) (hb : W.heap[qb]? = some (.cells #[.slice none 0 c] 22 (0, 0))) (hs : W.heap[qs]? = some (.cells #[.int .u64 (s0 : Int)] 35 (0, 0))) :
    CallsIn Fence.wide 2 Try.prog 53 #[.func (.yield l) #[] #[], .pointer (some ⟨qb, 0, none⟩), .pointer (some ⟨qs, 0, none⟩)] W fun e W' => (∃ v, e = .returned v) ∧ ∃ s, s = allP 1 [] 0 s0 ∧ K s W' := by
  refine callsIn_of_wp Try.func53 rfl trivial ?_ rfl
  simp only [Try.ntmps53, List.size_toArray, List.length_cons, List.length_nil, Nat.reduceAdd, Nat.reduceSub, Array.replicate_succ, Array.replicate_zero, List.push_toArray, List.append_toArray, List.nil_append, List.cons_append]
  have HB := Aside0.mk hb
  have HS := Aside0.mk hs
  clear hb hs
  refine wpIn_wide.2 (wp_scope_straight ((wpIn_wide (n := 2)).1 ?_))
  gi_wp2
  refine wpIn_wide.2 (wp_label ?_)
  gi_wp2
  gi_loopw [4] (fun v4 wr => v4 = .int .i64 0 ∧ wr = W) (fun v4 _ => 0)
  case atStart => exact ⟨rfl, rfl⟩
  case round =>
    obtain ⟨rfl, rfl⟩ := hrel
    have cb : wr.cell? ⟨qb, 0, none⟩ = some (.slice none 0 c) := blk_cell HB.out 0
    have cs : wr.cell? ⟨qs, 0, none⟩ = some (.int .u64 (s0 : Int)) := blk_cell HS.out 0
    have key : ∀ c', Calls Try.prog 26 #[.slice none 0 c'] wr fun e w' => ∃ v1_ : Value, e = .returned (.tuple #[.int .u64 0, v1_, .int .i64 0]) ∧ Kd.R (Kd.int .u8) 5 w' wr.heap.size (fun _ => True) v1_ ([] : List Int) ∧ Below wr.heap.size wr w' :=
      fun c' => crc_Next.calls none c' [] 0 [] 0 wr (Kd.C_empty _ _) (Nat.zero_le _) (by unfold crc_Next.f; rw [if_pos ⟨by decide, fun x hx => by cases hx⟩]; rfl)
    have KEY := Aside0.mk key
    clear key
    gi_wp2
    refine ⟨trivial, (callsIn_wide.2 (KEY.out _)).mono ?_⟩
    rintro e w1 ⟨v1, rfl, hv1, hb1⟩
    have HK1 := Aside0.mk (hKS _ _ _ h0 (St.of_below hb1))
    clear hv1 hb1
    gi_wp2
    rw [Exit.noGoto_normal]
    go_end0
    exact ⟨⟨_, rfl⟩, [], rfl, HK1.out⟩
set_option maxHeartbeats 4000000 in
theorem each47 (A : Option Addr) (n c s0 : Nat) (w : World) : Calls Try.prog 47 #[.slice A n c, .int .u64 (s0 : Int)] w fun e w' => e = .returned (.func (.func 53) #[] #[.pointer (some ⟨w.heap.size, 0, none⟩), .pointer (some ⟨w.heap.size + 1, 0, none⟩)]) ∧
    w' = (w.alloc (.cells #[.slice A n c] 22)).alloc (.cells #[.int .u64 (s0 : Int)] 35) := by
  go_enter Try.func47, Try.ntmps47
  go_wp2
  go_ret
  exact ⟨by simp, rfl⟩
end Go.Proofs.Ytmepclalglmleaa.E
