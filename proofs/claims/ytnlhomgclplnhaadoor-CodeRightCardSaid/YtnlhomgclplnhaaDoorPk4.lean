import Derived.Test.YtnlhomgclplnhaaDoorPk3
import Derived.Test.YtnlhomgclplnhaaDoorPk1
import Derived.Laws.CopyOwn
/- code.Right and code.State, in the print's form. -/
namespace Go.Proofs.YtnlhomgclplnhaaDoor.E
open Go.RowKit Go.Proofs.YtnlhomgclplnhaaDoorW.PrintWords Go.Proofs.YtnlhomgclplnhaaDoorW.PrintLast Go.Proofs.YtnlhomgclplnhaaDoorW.PrintMore Go.Proofs.YtnlhomgclplnhaaDoor.Pr
set_option linter.unusedVariables false
set_option linter.unusedSimpArgs false
attribute [local go_sem] opVal opUpon
def code_Right.f (clock : Int) (us : List S33) (ss : List S31) : Option Bool :=
  if (∀ u ∈ us, u.f0.size ≤ 140737488351232 ∧ u.f3.size ≤ 140737488351232) ∧ (∀ u ∈ ss, u.f0.size ≤ 140737488351232 ∧ u.f1.size ≤ 140737488351232) then some (rightL us ss) else none
theorem code_Right.calls (a0 : Int) (A1 : Option Addr) (c1 : Nat) (l1 : List S33) (A2 : Option Addr) (c2 : Nat) (l2 : List S31) (r : Bool) (w : World) (hr1 : Kd.C k33 w A1 l1.length l1) (hc1 : l1.length ≤ c1) (hr2 : Kd.C k31 w A2 l2.length l2) (hc2 : l2.length ≤ c2)
    (h : code_Right.f a0 l1 l2 = some r) (hG : RootsIn w) :
    Calls Tryd.prog 11 #[.agg #[.int .u64 a0, .slice A1 l1.length c1, .slice A2 l2.length c2]] w fun e w' => e = .returned (.bool r) ∧ Below w.heap.size w w' := by
  unfold code_Right.f at h
  split at h
  case isFalse => cases h
  case isTrue hh =>
    have h := Option.some.inj h
    subst h
    exact right_any a0 A1 _ c1 l1 A2 _ c2 l2 w hr1 hr2 hc1 hc2 hh.1 hh.2 hG
/-- A state as bytes, and the error. -/
def stateR (clock : Int) (us : List S33) (ss : List S31) : List Int × Int := if rightL us ss = true then (stateB clock.toNat us ss, 0) else ([], 1)
def code_State.f (clock : Int) (us : List S33) (ss : List S31) : Option (List Int × Int) :=
  if ((∀ u ∈ us, u.f0.size ≤ 140737488351232 ∧ u.f3.size ≤ 140737488351232) ∧ (∀ u ∈ ss, u.f0.size ≤ 140737488351232 ∧ u.f1.size ≤ 140737488351232)) ∧
    (0 ≤ clock ∧ (∀ u ∈ us, ((∀ x ∈ u.f1, 0 ≤ x ∧ x ≤ 255) ∧ (∀ x ∈ u.f2, 0 ≤ x ∧ x ≤ 255)) ∧ 0 ≤ u.f5) ∧ (∀ u ∈ ss, 0 ≤ u.f2 ∧ 0 ≤ u.f3)) ∧ (us.flatMap UserB).length + (ss.flatMap SessB).length ≤ 600000 then some (stateR clock us ss) else none
theorem users_fails : ∀ (us : List S33) (last : ByteArray), usersGood last us = true → ∀ u ∈ us, 0 ≤ u.f4 ∧ u.f4 ≤ 1000000
  | [], _, _, u, hu => by cases hu
  | v :: r, last, h, u, hu => by
    simp only [usersGood, userGood, Bool.and_eq_true, decide_eq_true_eq] at h
    rcases List.mem_cons.1 hu with rfl | hu
    · exact h.1.2.2.2.2.2
    · exact users_fails r v.f0 h.2 u hu
set_option maxHeartbeats 8000000 in
set_option maxRecDepth 100000 in
theorem code_State.calls (a0 : Int) (A1 : Option Addr) (c1 : Nat) (l1 : List S33) (A2 : Option Addr) (c2 : Nat) (l2 : List S31) (r1 : List Int) (r2 : Int) (w : World) (hr1 : Kd.C k33 w A1 l1.length l1) (hc1 : l1.length ≤ c1) (hr2 : Kd.C k31 w A2 l2.length l2) (hc2 : l2.length ≤ c2)
    (h : code_State.f a0 l1 l2 = some (r1, r2)) (hG : RootsIn w) :
    Calls Tryd.prog 10 #[.agg #[.int .u64 a0, .slice A1 l1.length c1, .slice A2 l2.length c2]] w fun e w' => ∃ v0_ : Value, e = .returned (.tuple #[v0_, .int .u16 r2]) ∧ Kd.R (Kd.int .u8) 5 w' w.heap.size (fun _ => True) v0_ r1 ∧ Below w.heap.size w w' := by
  unfold code_State.f at h
  split at h
  case isFalse => cases h
  case isTrue hh =>
    obtain ⟨⟨hs1, hs2⟩, ⟨h0, hu, hs⟩, hl⟩ := hh
    have h := Option.some.inj h
    obtain ⟨n1, hn1⟩ : ∃ n, n = l1.length := ⟨_, rfl⟩
    obtain ⟨n2, hn2⟩ : ∃ n, n = l2.length := ⟨_, rfl⟩
    have hba := below_alloc (Below.refl w.heap.size w) (.cells #[.int .u64 a0, .slice A1 n1 c1, .slice A2 n2 c2] 27)
    have hbox := heap_alloc_new w (.cells #[.int .u64 a0, .slice A1 n1 c1, .slice A2 n2 c2] 27)
    rw [← hn1] at hr1 hc1
    rw [← hn2] at hr2 hc2
    rw [← hn1, ← hn2]
    have hrt := right_any a0 A1 n1 c1 l1 A2 n2 c2 l2 _ (Kd.C_below hr1 hba) (Kd.C_below hr2 hba) hc1 hc2 hs1 hs2 (hG.below rfl hba)
    have hun := Tryd.underlying27
    have HR1 := Aside0.mk hr1
    have HR2 := Aside0.mk hr2
    have HN := Aside0.mk (And.intro hn1 hn2)
    have HBX := Aside0.mk hbox
    have HBA := Aside0.mk hba
    have HUS := Aside0.mk (And.intro hu hs)
    have HL := Aside0.mk hl
    cases hq : rightL l1 l2 with
    | false =>
      rw [hq] at hrt
      have HRT := Aside0.mk hrt
      have H := Aside0.mk h
      have HQ := Aside0.mk hq
      clear hrt h hq hr1 hr2 hs1 hs2 hu hs hl hn1 hn2 hbox hba hc1 hc2 hG
      go_enter Tryd.func10, Tryd.ntmps10
      go_wp2_with (go_at_call 11; ((with_reducible refine (HRT.out).mono ?_)))
      rintro e w1 ⟨rfl, hb⟩
      have HB1 := Aside0.mk (below_step HBA.out hb)
      clear hb
      go_wp2
      have hv := H.out
      rw [stateR, HQ.out] at hv
      injection hv with h1 h2
      subst h1 h2
      go_ret2
      exact ⟨_, rfl, Kd.R_nil _ _ _ _ _, HB1.out⟩
    | true =>
      obtain ⟨ck, rfl⟩ : ∃ k : Nat, a0 = (k : Int) := ⟨a0.toNat, by omega⟩
      rw [hq] at hrt
      have hq' := hq
      unfold rightL at hq'
      simp only [Bool.and_eq_true, decide_eq_true_eq] at hq'
      have hok : ∀ u ∈ l1, UOk u := fun u hm => ⟨(hu u hm).1, (users_fails l1 _ hq'.2.2.1 u hm).1, (users_fails l1 _ hq'.2.2.1 u hm).2, (hu u hm).2⟩
      have HOK := Aside0.mk hok
      have HSM := Aside0.mk (show n1 ≤ 50 ∧ n2 ≤ 200 by omega)
      have HRT := Aside0.mk hrt
      have H := Aside0.mk h
      have HQ := Aside0.mk hq
      clear hrt h hq hq' hok hr1 hr2 hs1 hs2 hu hs hl hn1 hn2 hbox hba hc1 hc2 hG h0
      go_enter Tryd.func10, Tryd.ntmps10
      go_wp2_with (go_at_call 11; ((with_reducible refine (HRT.out).mono ?_)))
      rintro e w1 ⟨rfl, hb⟩
      have hW1 := below_step HBA.out hb
      have hbx1 := (hb.block w.heap.size (Array.getElem?_eq_some_iff.1 HBX.out).1).trans HBX.out
      have hba2 := below_alloc (Below.refl w1.heap.size w1) (.cells #[.slice none 0 0] 62)
      have hbx2 := (hba2.block w.heap.size (Array.getElem?_eq_some_iff.1 hbx1).1).trans hbx1
      have hg2 := heap_alloc_new w1 (.cells #[.slice none 0 0] 62)
      have hW2 := below_step hW1 hba2
      have x0 := blk_cell hbx1 0
      have x1 := blk_cell hbx1 1
      have x2 := blk_cell hbx1 2
      have y0 := blk_cell hbx2 0
      have y1 := blk_cell hbx2 1
      have y2 := blk_cell hbx2 2
      simp only [List.getElem?_toArray, List.getElem?_cons_zero, List.getElem?_cons_succ] at x0 x1 x2 y0 y1 y2
      have HCP := Aside0.mk (copied_any (ck : Int) A1 n1 c1 l1 A2 n2 c2 l2 w _ hW2 HR1.out HOK.out (by have := HSM.out; omega) HR2.out HUS.out.2 (by have := HSM.out; omega))
      have HG2 := Aside0.mk hg2
      have HW2 := Aside0.mk hW2
      have HSZ1 := Aside0.mk hW1.size
      have HSZ2 := Aside0.mk (show (w1.alloc (.cells #[.slice none 0 0] 62)).heap.size = w1.heap.size + 1 by show (w1.heap.push _).size = _; rw [Array.size_push])
      clear hb hW1 hbx1 hba2 hbx2 hg2 hW2
      go_wp2_with (go_at_call 29; ((with_reducible refine (HCP.out).mono ?_)))
      rintro e w3 ⟨A', c', B', d', rfl, hb3, ⟨ub, cur, hub, hcu⟩, ⟨vb, cuv, hvb, hcv⟩⟩
      have hal := below_alloc (Below.refl w3.heap.size w3) (.cells #[.int .u64 (ck : Int), .slice A' n1 c', .slice B' n2 d'] 27)
      have hsb := heap_alloc_new w3 (.cells #[.int .u64 (ck : Int), .slice A' n1 c', .slice B' n2 d'] 27)
      have hg3 := (hb3.block w1.heap.size (Array.getElem?_eq_some_iff.1 HG2.out).1).trans HG2.out
      have hg4 := (hal.block w1.heap.size (Array.getElem?_eq_some_iff.1 hg3).1).trans hg3
      have hsz3 := hb3.size
      rw [HSZ2.out] at hsz3
      have hW4 : Below w.heap.size w (w3.alloc (.cells #[.int .u64 (ck : Int), .slice A' n1 c', .slice B' n2 d'] 27)) := (HW2.out.trans (hb3.mono HW2.out.size)).trans (hal.mono (by have := HSZ1.out; omega))
      have hwr : WrAt w.heap.size w1.heap.size [] (w3.alloc (.cells #[.int .u64 (ck : Int), .slice A' n1 c', .slice B' n2 d'] 27)) := ⟨HSZ1.out, _, hg4, Kd.R_nil _ _ _ _ _⟩
      have hsz4 : (w3.alloc (.cells #[.int .u64 (ck : Int), .slice A' n1 c', .slice B' n2 d'] 27)).heap.size = w3.heap.size + 1 := by show (w3.heap.push _).size = _; rw [Array.size_push]
      rw [HSZ2.out] at hub hvb
      obtain ⟨ub', hub1, hub2⟩ : ∃ ub', (0 < l1.length → ub' = ub) ∧ (w1.heap.size + 1 ≤ ub' ∧ ub' ≠ w3.heap.size ∧ ub' ≠ w3.heap.size + 1 ∧ (0 < l1.length ∨ ub' = w3.heap.size + 5)) := by
        by_cases hp : 0 < l1.length
        · have h1 := (hub hp).1.1
          have h2 := (Array.getElem?_eq_some_iff.1 (hub hp).2.1).1
          exact ⟨ub, fun _ => rfl, h1, by omega, by omega, .inl hp⟩
        · exact ⟨w3.heap.size + 5, fun h => absurd h hp, by omega, by omega, by omega, .inr rfl⟩
      obtain ⟨vb', hvb1, hvb2⟩ : ∃ vb', (0 < l2.length → vb' = vb) ∧ (w1.heap.size + 1 ≤ vb' ∧ vb' ≠ w3.heap.size ∧ vb' ≠ w3.heap.size + 1 ∧ (0 < l2.length ∨ vb' = w3.heap.size + 6)) := by
        by_cases hp : 0 < l2.length
        · have h1 := (hvb hp).1.1
          have h2 := (Array.getElem?_eq_some_iff.1 (hvb hp).2.1).1
          exact ⟨vb, fun _ => rfl, h1, by omega, by omega, .inl hp⟩
        · exact ⟨w3.heap.size + 6, fun h => absurd h hp, by omega, by omega, by omega, .inr rfl⟩
      have huv : ub' ≠ vb' := by
        intro e
        rcases hub2.2.2.2 with h1 | h1
        · have e1 := hub1 h1
          have k1 := (hub h1).2.1
          rcases hvb2.2.2.2 with h2 | h2
          · have e2 := hvb1 h2
            have k2 := (hvb h2).2.1
            rw [← e1, e, e2, k2] at k1
            injection k1 with k1
            injection k1 with _ k1
            exact absurd k1 (by decide)
          · have := (Array.getElem?_eq_some_iff.1 k1).1
            omega
        · rcases hvb2.2.2.2 with h2 | h2
          · have e2 := hvb1 h2
            have := (Array.getElem?_eq_some_iff.1 (hvb h2).2.1).1
            omega
          · omega
      have hwB := HSZ1.out
      have hst := wstate_any w.heap.size w1.heap.size w3.heap.size ub' vb' ck A' B' c' d' cur cuv l1 l2 _ hwr (by rw [← HN.out.1, ← HN.out.2]; exact hsb) (by omega) hub2.2.1.symm hvb2.2.1.symm (by omega) (by omega) huv (by omega) (by omega) (by omega) (by rw [hsz4]; exact hub2.2.2.1) (by rw [hsz4]; exact hvb2.2.2.1)
        (fun hp => by rw [hub1 hp]; exact ⟨(hub hp).1.2, (hal.block ub (Array.getElem?_eq_some_iff.1 (hub hp).2.1).1).trans (hub hp).2.1, (hub hp).2.2⟩) (fun i hi => (hcu i hi).to (hal.mono (by omega)))
        (fun hp => by rw [hvb1 hp]; exact ⟨(hvb hp).1.2, (hal.block vb (Array.getElem?_eq_some_iff.1 (hvb hp).2.1).1).trans (hvb hp).2.1, (hvb hp).2.2⟩) (fun i hi => hcv i hi) HL.out (by have := HSM.out; have := HN.out; omega) (by have := HSM.out; have := HN.out; omega)
      have HST := Aside0.mk hst
      have HW4 := Aside0.mk hW4
      clear hb3 hub hcu hvb hcv hal hsb hg3 hg4 hsz3 hW4 hwr hsz4 hub1 hub2 hvb1 hvb2 huv hwB hst x0 x1 x2 y0 y1 y2
      go_wp2_with (go_at_call 30; ((with_reducible refine (HST.out).mono ?_)))
      rintro e w5 ⟨rfl, ⟨-, v, hg, hR⟩, hb5⟩
      have c5 : w5.cell? ⟨w1.heap.size, 0, none⟩ = some v := blk_cell hg 0
      have HR := Aside0.mk hR
      have HB5 := Aside0.mk (HW4.out.trans hb5)
      clear hg hR hb5
      go_wp2
      have hv := H.out
      rw [stateR, HQ.out, if_pos rfl, Int.toNat_natCast] at hv
      injection hv with h1 h2
      subst h1 h2
      go_ret2
      exact ⟨_, rfl, HR.out, HB5.out⟩
end Go.Proofs.YtnlhomgclplnhaaDoor.E


/- copy(x, c): a row of bytes laid into one of the call's own. -/
namespace Go.Proofs.YtnlhomgclplnhaaDoor.E
open Go.RowKit Go.Proofs.YtnlhomgclplnhaaDoorW.PrintWords Go.Proofs.YtnlhomgclplnhaaDoorW.PrintLast Go.Proofs.YtnlhomgclplnhaaDoorW.PrintMore Go.Proofs.YtnlhomgclplnhaaDoor.Pr
set_option linter.unusedVariables false
set_option linter.unusedSimpArgs false
/-- The row xs, with the first of it overwritten by ys. -/
def cpyL (xs ys : List Int) : List Int := ys.take xs.length ++ xs.drop ys.length
theorem cpyL_length (xs ys : List Int) : (cpyL xs ys).length = xs.length := by
  unfold cpyL
  rw [List.length_append, List.length_take, List.length_drop]
  omega
theorem setRow_grown (w : World) (g : Nat) (cs : Array Value) : w.grownBy (w.setRow g cs) (some g) :=
  ⟨rfl, rfl, rfl, by simp [World.setRow], fun k _ hk => setRow_other w g k cs (fun e => hk (by rw [e]))⟩
section
variable {P : Program} {ops : Array Oper} {rest : List Oper} {o : Oper} {a : Act} {Q : Exit → Act → World → Prop}
theorem run_copy_u8 {W : World} (base : Nat) (t e ty : TypeId) (ht : P.underlying t = some (.slice e)) (hsz : (P.info? e).map (·.size) = some 1)
    (v : Value) (xs ys : List Int) (A : Option Addr) (m c : Nat) (ok : Nat → Prop) (HO : Kd.R (Kd.int .u8) e W base ok v xs) (HR : Kd.C (Kd.int .u8) W A m ys) :
    ∃ u w1, (Builtin.copy_ #[t, t] ty #[v, .slice A m c]).run P W = .ok u w1 ∧ Kd.R (Kd.int .u8) e w1 base ok v (cpyL xs ys) ∧ W.grownBy w1 v.ownBlock := by
  have hlen : ys.length = m := HR.1
  have hown := Kd.own_of_R (enc := Value.int .u8) (h1 := fun _ => rfl) HO
  have hok := HO.1
  rcases Nat.eq_zero_or_pos (Nat.min m xs.length) with h0 | hp
  · have hrun : ∃ u, (Builtin.copy_ #[t, t] ty #[v, .slice A m c]).run P W = .ok u W := by
      rcases hown.2 with ⟨rfl, -⟩ | ⟨g, cap, cur, rfl, -⟩
      · exact ⟨_, run_copy_none (P := P) W t t ty e none A 0 0 m c ht hsz (by simp [Nat.min_def])⟩
      · exact ⟨_, run_copy_none (P := P) W t t ty e (some ⟨g, 0, none⟩) A _ cap m c ht hsz h0⟩
    obtain ⟨u, hu⟩ := hrun
    refine ⟨u, W, hu, ?_, ⟨rfl, rfl, rfl, Nat.le_refl _, fun _ _ _ => rfl⟩⟩
    have hc : cpyL xs ys = xs := by
      unfold cpyL
      have h1 : m = 0 ∨ xs.length = 0 := by simp only [Nat.min_def] at h0; split at h0 <;> omega
      rcases h1 with h1 | h1
      · rw [List.eq_nil_of_length_eq_zero (hlen.trans h1)]; simp
      · rw [List.eq_nil_of_length_eq_zero h1]; simp
    rw [hc]
    exact HO
  · rcases hown.2 with ⟨rfl, hz⟩ | ⟨g, cap, cur, rfl, hbg, hg, hcap, hmax, hsize, hcur⟩
    · rw [hz] at hp; simp [Nat.min_def] at hp
    · have hm0 : 0 < m := Nat.lt_of_lt_of_le hp (Nat.min_le_left _ _)
      obtain ⟨ad, rfl⟩ : ∃ ad, A = some ad := by
        cases A with
        | some ad => exact ⟨ad, rfl⟩
        | none => obtain ⟨ad, he, -⟩ := HR.2.2 hm0; cases he
      obtain ⟨k, hk⟩ : ∃ k, k = Nat.min m xs.length := ⟨_, rfl⟩
      have hkm : k ≤ m := hk ▸ Nat.min_le_left _ _
      have hkx : k ≤ xs.length := hk ▸ Nat.min_le_right _ _
      have hcs : (encs (Value.int .u8) (ys.take k)).length = k := by simp [encs]; omega
      have hsrc : ∀ j u, (encs (Value.int .u8) (ys.take k))[j]? = some u → W.cell? (ad.add j) = some u := by
        intro j u hu
        have hj : j < k := by rw [← hcs]; exact (List.getElem?_eq_some_iff.1 hu).1
        obtain ⟨ad', he, hc⟩ := Kd.at_int HR (j : Int) (by omega) (by omega)
        obtain rfl := Option.some.inj he
        rw [Int.toNat_natCast] at hc
        rw [hc, ← hu]
        simp only [encs, List.getElem?_map, List.getElem?_take, if_pos hj, rd, Int.toNat_natCast, List.getD_eq_getElem?_getD]
        rw [List.getElem?_eq_getElem (by omega : j < ys.length)]
        rfl
      have hrun := run_copy_row (P := P) W t t ty e g 0 xs.length cap ad m c cur e (encs (Value.int .u8) (ys.take k)) ht hsz hg (by rw [hcs]; exact hk) hsrc (by rw [hcs, hsize, Nat.mul_one]; omega) (by intro u hu; simp only [encs, List.mem_map] at hu; obtain ⟨x, -, rfl⟩ := hu; rfl)
      refine ⟨_, _, hrun, ?_, setRow_grown W g _⟩
      refine Kd.R_of_own (enc := Value.int .u8) ?_ hok
      rw [cpyL_length]
      have hxl : (encs (Value.int .u8) xs).length = xs.length := by simp [encs]
      have htk : ys.take k = ys.take xs.length := by
        rw [hk, show Nat.min m xs.length = if m ≤ xs.length then m else xs.length from Nat.min_def]
        split
        · rw [List.take_of_length_le (by omega), List.take_of_length_le (by omega)]
        · rfl
      have hdr : xs.drop k = xs.drop ys.length := by
        rw [hk, show Nat.min m xs.length = if m ≤ xs.length then m else xs.length from Nat.min_def]
        split
        · rw [hlen]
        · rw [List.drop_eq_nil_of_le (Nat.le_refl _), List.drop_eq_nil_of_le (by omega)]
      have hc2 : encs (Value.int .u8) (cpyL xs ys) = encs (Value.int .u8) (ys.take k) ++ (encs (Value.int .u8) xs).drop k := by
        unfold cpyL
        rw [encs_append, ← htk, ← hdr]
        simp [encs]
      refine ⟨by rw [hc2, List.length_append, hcs, List.length_drop, hxl]; omega, .inr ⟨g, cap, _, rfl, hbg, setRow_heap W g cur _ e (0, 0) hg, hcap, hmax, ?_, ?_⟩⟩
      · simp only [List.size_toArray, List.length_append, List.length_take, List.length_drop, Array.length_toList, hcs]
        omega
      · rw [hc2, hcs, List.take_zero, List.nil_append, Nat.zero_add, Nat.mul_one, List.take_append, hcs, List.take_of_length_le (by omega), ← hcur, Nat.mul_one, List.drop_take]
theorem R_copy_u8 {w0 W : World} (base : Nat) (hgd : o.guard = none) (s x : Operand) (t e : TypeId)
    (ho : o.op = .call { callee := .builtin .copy, args := #[s, x], argTypes := #[t, t] })
    (ht : P.underlying t = some (.slice e)) (hinfo : (P.info? e).map (fun i => (i.zero, i.size, i.bytes)) = some (some (.int .u8 0), 1, 1))
    (v : Value) (xs ys : List Int) (A : Option Addr) (m c : Nat) (ok : Nat → Prop) (hs : a.eval s = v) (hx : a.eval x = .slice A m c)
    (HO : Kd.R (Kd.int .u8) e W base ok v xs) (HR : Kd.C (Kd.int .u8) W A m ys) (HB : Below base w0 W) (hbase : base ≤ W.heap.size)
    (h : ∀ u w1, Kd.R (Kd.int .u8) e w1 base ok v (cpyL xs ys) → Below base w0 w1 → W.grownBy w1 v.ownBlock → (v.ownBlock = v.ownBlock ∨ ∃ b, v.ownBlock = some b ∧ W.heap.size ≤ b) → wpList P ops Q rest (a.put o.dst u) w1) :
    wpList P ops Q (o :: rest) a W := by
  have hsz : (P.info? e).map (·.size) = some 1 := by
    obtain ⟨i0, hi, hzz⟩ := Option.map_eq_some_iff.1 hinfo
    simp only [Prod.mk.injEq] at hzz
    rw [hi]
    exact congrArg some hzz.2.1
  obtain ⟨u, w1, hr1, hR1, hg1⟩ := run_copy_u8 base t e o.type ht hsz v xs ys A m c ok HO HR
  refine wpList_plain hgd fun K hK => ?_
  unfold Oper.wp execOp
  simp only [ho, resolve, invoke, builtin, Sem.run_bind, Sem.run_pure, Result.andThen_ok, List.map_toArray, List.map_cons, List.map_nil, hs, hx, hr1]
  exact hK _ _ (h u w1 hR1 (HB.grown hg1 hbase (fun k hk => by
    rcases (Kd.own_of_R (enc := Value.int .u8) (h1 := fun _ => rfl) HO).2 with ⟨rfl, -⟩ | ⟨g, cap, cur, rfl, hbg, -⟩
    · cases hk
    · injection hk with hk; subst hk; exact hbg)) hg1 (.inl rfl))
end
theorem S_under {α : Type} {d : Kd α} {e : Nat} {w : World} {base : Nat} {ok : Nat → Prop} {v : Value} {xs : List α} (h : Kd.S d e w base ok v xs) : ∃ H0, Kd.S d e w base (fun k => ok k ∧ k < H0) v xs ∧ H0 ≤ w.heap.size :=
  ⟨_, Kd.S_mono (Kd.S_bound h) (fun _ hk => ⟨hk.1, hk.2.2.1⟩), Nat.le_refl _⟩
end Go.Proofs.YtnlhomgclplnhaaDoor.E


-- Written for this claim by wip/myprint.py, this session's driver over the kit's print.py. Not trusted: Lean checks it.
namespace Go.Proofs.YtnlhomgclplnhaaDoor.Pr
open Go.RowKit Go.Proofs.YtnlhomgclplnhaaDoorW.PrintWords Go.Proofs.YtnlhomgclplnhaaDoorW.PrintLast Go.Proofs.YtnlhomgclplnhaaDoorW.PrintMore Go.Proofs.YtnlhomgclplnhaaDoor.E
attribute [local go_sem] max2_int min2_int max_two min_two max_three min_three max_four min_four   -- for this text's walks alone
set_option linter.unusedVariables false
set_option linter.unusedSimpArgs false

/-! ### wicketmanlaw16_Name: function 27 -/
def wicketmanlaw16_Name.f (a0 : Int) : Option (ByteArray) := (some (([(97 + (Int.tmod a0 5)) % 256] : List Int) : List Int)).bind fun y101 => (if 1 + (strOfNums y101).size ≤ 9223372036854775807 then (some ((⟨#[117]⟩ : ByteArray) ++ (strOfNums y101))) else (none))
set_option maxHeartbeats 8000000 in
set_option maxRecDepth 1000000 in
theorem wicketmanlaw16_Name.calls (a0 : Int) (r : ByteArray) (w : World) (h : wicketmanlaw16_Name.f a0 = some r) :
  Calls Tryd.prog 27 #[.int .u8 a0] w fun e w' => e = .returned (.string r) ∧ Below w.heap.size w w' := by
 have HB := Aside0.mk (Below.refl w.heap.size w)
 have H : ((some (([(97 + (Int.tmod a0 5)) % 256] : List Int) : List Int)).bind fun y101 => (if 1 + (strOfNums y101).size ≤ 9223372036854775807 then (some ((⟨#[117]⟩ : ByteArray) ++ (strOfNums y101))) else (none))) = some r := h
 clear h
 obtain ⟨y101, hy101⟩ : ∃ y_ : List Int, y_ = (([(97 + (Int.tmod a0 5)) % 256] : List Int)) := ⟨_, rfl⟩
 replace H : (if 1 + (strOfNums y101).size ≤ 9223372036854775807 then (some ((⟨#[117]⟩ : ByteArray) ++ (strOfNums y101))) else (none)) = some r := by first | (rw [hy101]; with_reducible exact H) | (have H2_ := (Option.bind_some _ _).symm.trans H; rw [hy101]; with_reducible exact H2_) | (have H2_ := (Option.bind_some _ _).symm.trans H; with_reducible exact H2_) | with_reducible exact H | (rw [hy101]; exact H) | exact H
 have Ny101 := Aside0.mk hy101
 clear hy101
 by_cases c2 : 1 + (strOfNums y101).size ≤ 9223372036854775807
 ·rw [if_pos c2] at H
  have c2b0 := eq_true c2
  have c2b1 : decide (1 + (strOfNums y101).size ≤ 9223372036854775807) = true := decide_eq_true c2
  try have c2b2 : (9223372036854775807 < 1 + (strOfNums y101).size) = False := eq_false (Nat.not_lt.2 c2)
  try (have c2b3 := c2; simp at c2b3)
  try have c2b4 := eq_false (Nat.not_lt.2 c2b3)
  obtain rfl := Option.some.inj H
  go_enter Tryd.func27, Tryd.ntmps27
  go_wp2_with (first | ((with_reducible refine gate_dst (N := 6) rfl ?_); refine Kd.R_lit (Kd.int .u8) _ 5 ?hg (N := 6) ?hd (xs := ([(97 + (Int.tmod a0 5)) % 256] : List Int)) (inner := [.int .u8 ((97 + (Int.tmod a0 5)) % 256)]) (ok := fun _ => True) (okp := fun _ => True) ?hr ?hp (fun _ hk => hk) trivial (Below.refl _ _) (Nat.le_refl _) (by simp) ?_; (case hd => rfl); (case hg => rfl); (case hr => first | (go_simp; done) | (go_simp; rfl)); (case hp => exact (Reps.one (show Kd.M (Kd.int .u8) _ _ _ ((97 + (Int.tmod a0 5)) % 256) [.int .u8 ((97 + (Int.tmod a0 5)) % 256)] from rfl) (Reps.none _ _))); intro v102 w3 ho4 hb hg_ hnew_; clear hg_ hnew_; (first | rw [← Ny101.out] at ho4 | (simp only [Int.reduceToNat] at ho4; rw [← Ny101.out] at ho4)); have n0_ := Aside0.mk (Kd.R_lower ho4 (below_size (by repeat (first | (with_reducible first | exact HB.out | apply below_alloc | apply pw_below_drewN | apply below_drew1) | exact HB.out)))); have n1_ := Aside0.mk (below_step (by repeat (first | (with_reducible first | exact HB.out | apply below_alloc | apply pw_below_drewN | apply below_drew1) | exact HB.out)) hb); clear HB; have HO103 := n0_; have HB := n1_; clear n0_ n1_; clear hb ho4; have hcv5 := own_string (P := Tryd.prog) Tryd.underlying22 Tryd.underlying5 Tryd.underlying9 (Kd.own_of_R HO103.out)))
  go_ret
  exact ⟨by first | rfl | (simp [errW_none, errW_some] <;> rfl) | (simp [*, errW_none, errW_some] <;> rfl), by repeat (first | (with_reducible first | exact HB.out | apply below_alloc | apply pw_below_drewN | apply below_drew1) | exact HB.out)⟩
 ·rw [if_neg c2] at H
  exact absurd H (by simp)

end Go.Proofs.YtnlhomgclplnhaaDoor.Pr

-- Written for this claim by wip/myprint.py, this session's driver over the kit's print.py. Not trusted: Lean checks it.
namespace Go.Proofs.YtnlhomgclplnhaaDoor.Pr
open Go.RowKit Go.Proofs.YtnlhomgclplnhaaDoorW.PrintWords Go.Proofs.YtnlhomgclplnhaaDoorW.PrintLast Go.Proofs.YtnlhomgclplnhaaDoorW.PrintMore Go.Proofs.YtnlhomgclplnhaaDoor.E
attribute [local go_sem] max2_int min2_int max_two min_two max_three min_three max_four min_four   -- for this text's walks alone
set_option linter.unusedVariables false
set_option linter.unusedSimpArgs false

/-! ### wicketmanlaw16_ID: function 28 -/
def wicketmanlaw16_ID.f (a0 : Int) : Option (ByteArray) := if 32 ≤ 281474976710656 then ((some (List.replicate 32 0 : List Int)).bind fun y101 => (if 0 < (y101.length : Int) then (if 31 < (y101.length : Int) then ((wicketmanref05_Text.f ((y101.set (0 : Int).toNat a0).set (31 : Int).toNat (Go.bits .xor .u8 a0 90))).bind fun t106 => (some t106)) else (none)) else (none))) else (none)
set_option maxHeartbeats 8000000 in
set_option maxRecDepth 1000000 in
theorem wicketmanlaw16_ID.calls (a0 : Int) (r : ByteArray) (w : World) (h : wicketmanlaw16_ID.f a0 = some r) :
  Calls Tryd.prog 28 #[.int .u8 a0] w fun e w' => e = .returned (.string r) ∧ Below w.heap.size w w' := by
 have HB := Aside0.mk (Below.refl w.heap.size w)
 have H : (if 32 ≤ 281474976710656 then ((some (List.replicate 32 0 : List Int)).bind fun y101 => (if 0 < (y101.length : Int) then (if 31 < (y101.length : Int) then ((wicketmanref05_Text.f ((y101.set (0 : Int).toNat a0).set (31 : Int).toNat (Go.bits .xor .u8 a0 90))).bind fun t106 => (some t106)) else (none)) else (none))) else (none)) = some r := h
 clear h
 by_cases c2 : 32 ≤ 281474976710656
 ·rw [if_pos c2] at H
  have c2b0 := eq_true c2
  have c2b1 : decide (32 ≤ 281474976710656) = true := decide_eq_true c2
  clear c2
  obtain ⟨y101, hy101⟩ : ∃ y_ : List Int, y_ = (List.replicate 32 0) := ⟨_, rfl⟩
  replace H : (if 0 < (y101.length : Int) then (if 31 < (y101.length : Int) then ((wicketmanref05_Text.f ((y101.set (0 : Int).toNat a0).set (31 : Int).toNat (Go.bits .xor .u8 a0 90))).bind fun t106 => (some t106)) else (none)) else (none)) = some r := by first | (rw [hy101]; with_reducible exact H) | (have H2_ := (Option.bind_some _ _).symm.trans H; rw [hy101]; with_reducible exact H2_) | (have H2_ := (Option.bind_some _ _).symm.trans H; with_reducible exact H2_) | with_reducible exact H | (rw [hy101]; exact H) | exact H
  have Ny101 := Aside0.mk hy101
  clear hy101
  by_cases c3 : 0 < (y101.length : Int)
  ·rw [if_pos c3] at H
   have c3b0 : decide (0 < (y101.length : Int)) = true := decide_eq_true c3
   have c3b1 : decide (0 < y101.length) = true := decide_eq_true (by omega)
   clear c3
   obtain ⟨y104, hy104⟩ : ∃ y_ : List Int, y_ = (y101.set (0 : Int).toNat a0) := ⟨_, rfl⟩
   replace H : (if 31 < (y101.length : Int) then ((wicketmanref05_Text.f (y104.set (31 : Int).toNat (Go.bits .xor .u8 a0 90))).bind fun t106 => (some t106)) else (none)) = some r := by first | (rw [hy104]; with_reducible exact H) | (have H2_ := (Option.bind_some _ _).symm.trans H; rw [hy104]; with_reducible exact H2_) | (have H2_ := (Option.bind_some _ _).symm.trans H; with_reducible exact H2_) | with_reducible exact H | (rw [hy104]; exact H) | exact H
   have Ny104 := Aside0.mk hy104
   clear hy104
   by_cases c5 : 31 < (y101.length : Int)
   ·rw [if_pos c5] at H
    have c5b0 : decide (31 < (y101.length : Int)) = true := decide_eq_true c5
    have c5b1 : decide (31 < y101.length) = true := decide_eq_true (by omega)
    clear c5
    obtain ⟨y105, hy105⟩ : ∃ y_ : List Int, y_ = (y104.set (31 : Int).toNat (Go.bits .xor .u8 a0 90)) := ⟨_, rfl⟩
    replace H : ((wicketmanref05_Text.f y105).bind fun t106 => (some t106)) = some r := by first | (rw [hy105]; with_reducible exact H) | (have H2_ := (Option.bind_some _ _).symm.trans H; rw [hy105]; with_reducible exact H2_) | (have H2_ := (Option.bind_some _ _).symm.trans H; with_reducible exact H2_) | with_reducible exact H | (rw [hy105]; exact H) | exact H
    have Ny105 := Aside0.mk hy105
    clear hy105
    replace H := Option.bind_eq_some_iff.mp H
    obtain ⟨t106, A70, H⟩ := H
    replace H : (some t106) = some r := H
    have A7 := Aside0.mk A70
    clear A70
    obtain rfl := Option.some.inj H
    go_enter Tryd.func28, Tryd.ntmps28
    go_wp2_with (first | ((with_reducible refine gate_dst (N := 4) rfl ?_); refine Kd.R_make (Kd.int .u8) _ 5 rfl (N := 4) rfl 22 _ _ rfl 32 rfl rfl Tryd.underlying22 (.int .u8 0) 1 info5 rfl (by decide) (by omega) 0 (ok := fun _ => True) (okp := fun _ => True) rfl (fun _ hk => hk) trivial (by omega) (by omega) (Below.refl _ _) (Nat.le_refl _) ?_; intro v102 w8 ho9 hb hg_ hnew_; clear hg_ hnew_; (first | rw [← Ny101.out] at ho9 | (simp only [Int.reduceToNat] at ho9; rw [← Ny101.out] at ho9)); have n0_ := Aside0.mk (Kd.R_lower ho9 (below_size (by repeat (first | (with_reducible first | exact HB.out | apply below_alloc | apply pw_below_drewN | apply below_drew1) | exact HB.out)))); have n1_ := Aside0.mk (below_step (by repeat (first | (with_reducible first | exact HB.out | apply below_alloc | apply pw_below_drewN | apply below_drew1) | exact HB.out)) hb); clear HB; have HO103 := n0_; have HB := n1_; clear n0_ n1_; clear hb ho9; have p4 : 0 ≤ (0 : Int) := (by omega); have q4 : (0 : Int) < ((y101.length : Int) : Int) := of_decide_eq_true (by first | (with_reducible assumption) | assumption); have qi4 : (0 < y101.length) = True := eq_true (by omega); obtain ⟨go4, co4, eo4, gb4, gl4, cl4, HG4⟩ := Kd.R_form HO103.out (by omega); (first | cases eo4 | (injection eo4 with ea_ en_ ec_; (first | subst ea_ | (injection ea_ with ea_; subst ea_)); subst ec_; clear en_)); have GB4 := Aside0.mk gb4; have GG4 := Aside0.mk HG4; clear gb4 gl4 HG4; obtain ⟨hx4_0, hf4_0⟩ := Kd.R_celln 0 HO103.out (0 : Int) p4 q4; (try rw [show ((0 : Int)).toNat = 0 from rfl] at hx4_0); (try simp only [Nat.reduceMul, Nat.zero_mul, Nat.zero_add, Nat.reduceAdd] at hx4_0); (try rw [show ((0 : Int)).toNat = 0 from rfl] at hf4_0); (try simp only [Nat.reduceMul, Nat.zero_mul, Nat.zero_add, Nat.reduceAdd] at hf4_0); replace p4 := eq_true p4; replace q4 := eq_true q4; obtain ⟨hy10_, hz10_⟩ := Kd.R_celln 0 HO103.out (0 : Int) (by omega) (of_decide_eq_true (by first | (with_reducible assumption) | assumption)); (try simp only [Int.reduceToNat, Int.toNat_zero, Int.toNat_ofNat, Nat.reduceMul, Nat.zero_mul, Nat.zero_add] at hy10_ hz10_); (try rw [show ((0 : Int)).toNat = 0 from rfl] at hy10_); (try rw [show ((0 : Int)).toNat = 0 from rfl] at hz10_); have HP10 := Kd.R_putg HO103.out (0 : Int) a0) | ((with_reducible refine gate_store (t := 5) (p := 7) rfl ?_); refine store_event (t := 5) (p := 7) (v := ?vo_w11) (w1 := (w8.setCell ⟨go4, (0 : Int).toNat, none⟩ (.int .u8 a0))) ?hg ?ho ?hn ?hr ?_; (case ho => rfl); (case hg => rfl); (case hn => rfl); (case hr => first | (go_simp; done) | (go_simp; rfl)); intro w11 hw; have hg : w8.grownBy w11 (some go4) := (by rw [hw]; exact HP10.2); have hp_ : Kd.R (Kd.int .u8) 5 w11 w.heap.size (fun _ => True) (.slice (some ⟨go4, 0, none⟩) y101.length co4) y104 := (by rw [hw, Ny104.out]; exact HP10.1); clear HP10; have n0_ := Aside0.mk (hp_); have n1_ := Aside0.mk ((by rw [hw]; exact below_set (HB.out) GB4.out : Below w.heap.size w w11)); clear HO103; clear HB; have HO103 := n0_; have HB := n1_; clear n0_ n1_; clear hg hw hp_; have p6 : 0 ≤ (31 : Int) := (by omega); have q6 : (31 : Int) < ((y101.length : Int) : Int) := of_decide_eq_true (by first | (with_reducible assumption) | assumption); have qi6 : (31 < y101.length) = True := eq_true (by omega); obtain ⟨hx6_0, hf6_0⟩ := Kd.R_celln 0 HO103.out (31 : Int) p6 q6; (try rw [show ((31 : Int)).toNat = 31 from rfl] at hx6_0); (try simp only [Nat.reduceMul, Nat.zero_mul, Nat.zero_add, Nat.reduceAdd] at hx6_0); (try rw [show ((31 : Int)).toNat = 31 from rfl] at hf6_0); (try simp only [Nat.reduceMul, Nat.zero_mul, Nat.zero_add, Nat.reduceAdd] at hf6_0); replace p6 := eq_true p6; replace q6 := eq_true q6; obtain ⟨hy12_, hz12_⟩ := Kd.R_celln 0 HO103.out (31 : Int) (by omega) (of_decide_eq_true (by first | (with_reducible assumption) | assumption)); (try simp only [Int.reduceToNat, Int.toNat_zero, Int.toNat_ofNat, Nat.reduceMul, Nat.zero_mul, Nat.zero_add] at hy12_ hz12_); (try rw [show ((31 : Int)).toNat = 31 from rfl] at hy12_); (try rw [show ((31 : Int)).toNat = 31 from rfl] at hz12_); have HP12 := Kd.R_putg HO103.out (31 : Int) (Go.bits .xor .u8 a0 90)) | ((with_reducible refine gate_store (t := 5) (p := 11) rfl ?_); refine store_event (t := 5) (p := 11) (v := ?vo_w13) (w1 := (w11.setCell ⟨go4, (31 : Int).toNat, none⟩ (.int .u8 (Go.bits .xor .u8 a0 90)))) ?hg ?ho ?hn ?hr ?_; (case ho => rfl); (case hg => rfl); (case hn => rfl); (case hr => first | (go_simp; done) | (go_simp; rfl)); intro w13 hw; have hg : w11.grownBy w13 (some go4) := (by rw [hw]; exact HP12.2); have hp_ : Kd.R (Kd.int .u8) 5 w13 w.heap.size (fun _ => True) (.slice (some ⟨go4, 0, none⟩) y101.length co4) y105 := (by rw [hw, Ny105.out]; exact HP12.1); clear HP12; have n0_ := Aside0.mk (hp_); have n1_ := Aside0.mk ((by rw [hw]; exact below_set (HB.out) GB4.out : Below w.heap.size w w13)); clear HO103; clear HB; have HO103 := n0_; have HB := n1_; clear n0_ n1_; clear hg hw hp_) | ((with_reducible refine gate_callee (f := 50) rfl ?_); refine goesL_ (some 13) rfl rfl Tryd.func50 (by kernel_rfl) rfl #[.slice (some ⟨go4, 0, none⟩) y105.length co4] rfl (by (try simp only [List.map_toArray, List.map_cons, List.map_nil]); first | done | (rw [show y105.length = y101.length from (Kd.R_reads' HO103.out).1.symm] <;> rfl) | rfl | (simp only [List.length_drop, List.length_take]; rfl)) ?_; (with_reducible refine (wicketmanref05_Text.calls _ _ y105 t106 _ ?side1 ?side2 A7.out).mono ?_); (case side1 => repeat (first | exact (Kd.R_reads' HO103.out).2.2 | (with_reducible refine Kd.C_alloc ?_ _) | (with_reducible refine Kd.C_drewN ?_ _) | (with_reducible refine Kd.C_drew ?_))); (case side2 => rw [show y105.length = y101.length from (Kd.R_reads' HO103.out).1.symm]; exact (Kd.R_reads' HO103.out).2.1); rintro e w14 ⟨rfl, hb⟩; refine ⟨_, rfl, ?_⟩; have n0_ := Aside0.mk (Kd.R_below (by (with_reducible repeat (first | apply Kd.R_alloc | apply Kd.R_drewN | apply Kd.R_drew)); exact HO103.out) hb); have n1_ := Aside0.mk (below_step (by repeat (first | (with_reducible first | exact HB.out | apply below_alloc | apply pw_below_drewN | apply below_drew1) | exact HB.out)) hb); clear HO103; clear HB; have HO103 := n0_; have HB := n1_; clear n0_ n1_; (try clear hb); (try clear hb2); (try clear hk); (try clear hi)))
    go_ret
    exact ⟨by first | rfl | (simp [errW_none, errW_some] <;> rfl) | (simp [*, errW_none, errW_some] <;> rfl), by repeat (first | (with_reducible first | exact HB.out | apply below_alloc | apply pw_below_drewN | apply below_drew1) | exact HB.out)⟩
   ·rw [if_neg c5] at H
    exact absurd H (by simp)
  ·rw [if_neg c3] at H
   exact absurd H (by simp)
 ·rw [if_neg c2] at H
  exact absurd H (by simp)

end Go.Proofs.YtnlhomgclplnhaaDoor.Pr
