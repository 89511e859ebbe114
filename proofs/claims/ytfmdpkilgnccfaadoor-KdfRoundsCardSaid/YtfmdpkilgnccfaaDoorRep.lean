/- bytes.Repeat of one byte, sixty-four times. -/
import Derived.Test.YtfmdpkilgnccfaaDoorRowsB
import Derived.Test.YtfmdpkilgnccfaaDoorReg2
import Derived.Lib.MakeNoZero
import Derived.Laws.IdiomCopy
import Derived.IntWalk
namespace Go.Proofs.YtfmdpkilgnccfaaDoor.E
open Go.RowKit Go.Proofs.YtfmdpkilgnccfaaDoorW.PrintWords Go.Proofs.YtfmdpkilgnccfaaDoorW.PrintLast Go.Proofs.YtfmdpkilgnccfaaDoorW.PrintMore Go.Proofs.YtfmdpkilgnccfaaDoor.Pr
set_option linter.unusedVariables false
set_option linter.unusedSimpArgs false
attribute [local go_sem] opVal opUpon
set_option maxHeartbeats 4000000 in
theorem mul64_any (w : World) : Calls Tryd.prog 69 #[.int .u64 1, .int .u64 64] w fun e w' => e = .returned (.tuple #[.int .u64 0, .int .u64 64]) ∧ w = w' := by
  have b1 : bits .and .u64 1 4294967295 = 1 := by decide
  have b2 : bits .and .u64 64 4294967295 = 64 := by decide
  have b3 : bits .and .u64 0 4294967295 = 0 := by decide
  go_enter Tryd.func69, Tryd.ntmps69
  go_wp2
  go_ret2
  exact ⟨rfl, rfl⟩
theorem mul_any (w : World) : Calls Tryd.prog 66 #[.int .u64 1, .int .u64 64] w fun e w' => e = .returned (.tuple #[.int .u64 0, .int .u64 64]) ∧ w = w' := by
  go_enter Tryd.func66, Tryd.ntmps66
  go_wp2_with (go_at_call 69; (refine (mul64_any _).mono ?_; rintro e w' ⟨rfl, rfl⟩))
  go_ret2
  exact ⟨rfl, rfl⟩
/-- The buffer, its first k bytes laid. -/
def Pre (w : World) (x : Int) (k : Nat) (X : World) : Prop := Below w.heap.size w X ∧ ∃ cur : List Value, X.heap[w.heap.size]? = some (.cells cur.toArray 5 (0, 0)) ∧ 64 ≤ cur.length ∧ ∀ j, j < k → cur[j]? = some (.int .u8 x)
theorem Pre.drew {w : World} {x : Int} {k : Nat} {X : World} (h : Pre w x k X) : Pre w x k X.drew := ⟨h.1.drew, h.2⟩
theorem wpList_copy_at {P : Program} {ops : Array Oper} {rest : List Oper} {o : Oper} {a : Act} {w : World} {Q : Exit → Act → World → Prop} (hgd : o.guard = none) (d s : Operand) (t t' : TypeId)
    (ho : o.op = .call { callee := .builtin .copy, args := #[d, s], argTypes := #[t, t'] }) (v u : Value) (hd : a.eval d = v) (hs : a.eval s = u) {v' : Value} {w' : World}
    (hr : (Builtin.copy_ #[t, t'] o.type #[v, u]).run P w = .ok v' w') (h : wpList P ops Q rest (a.put o.dst v') w') : wpList P ops Q (o :: rest) a w := by
  refine wpList_plain hgd fun K hK => ?_
  unfold Oper.wp execOp
  simp only [ho, resolve, invoke, builtin, Sem.run_bind, Sem.run_pure, Result.andThen_ok, List.map_toArray, List.map_cons, List.map_nil, hd, hs, hr]
  exact hK _ _ h
/-- copy(b[k:], s), s being d bytes x. -/
theorem copy_pre (w : World) (x : Int) (k d : Nat) (X : World) (h : Pre w x k X) (hkd : k + d ≤ 64) (a : Addr) (sLen sCap dCap : Nat) (ty : TypeId) (hd : d = Nat.min sLen (64 - k)) (hsrc : ∀ j, j < d → X.cell? (a.add j) = some (.int .u8 x)) :
    ∃ Y, (Builtin.copy_ #[22, 22] ty #[.slice (some ⟨w.heap.size, k, none⟩) (64 - k) dCap, .slice (some a) sLen sCap]).run Tryd.prog X = .ok (.int .i64 (d : Int)) Y ∧ Pre w x (k + d) Y ∧ ∀ j, Pre w x j X → Pre w x j Y := by
  obtain ⟨hb, cur, hg, hl, hc⟩ := h
  have hrun := run_copy_row (P := Tryd.prog) X 22 22 ty 5 w.heap.size k (64 - k) dCap a sLen sCap cur.toArray 5 (List.replicate d (Value.int .u8 x)) Tryd.underlying22 (by kernel_rfl) hg (by rw [List.length_replicate]; exact hd)
    (fun j v hj => by
      have hlt : j < d := by have := (List.getElem?_eq_some_iff.1 hj).1; simpa using this
      rw [List.getElem?_replicate, if_pos hlt] at hj
      cases hj
      exact hsrc j hlt) (by simp; omega) (fun v hv => by rw [List.eq_of_mem_replicate hv]; rfl)
  rw [List.length_replicate] at hrun
  have hset : ∀ (i : Nat) (j : Nat), (∀ q, q < j → cur[q]? = some (Value.int .u8 x)) → i < j ∨ i < k + d → (cur.take k ++ List.replicate d (Value.int .u8 x) ++ cur.drop (k + d))[i]? = some (.int .u8 x) := by
    intro i j hj hi
    have hlk : (cur.take k).length = k := by rw [List.length_take]; omega
    by_cases h1 : i < k
    · rw [List.append_assoc, List.getElem?_append_left (by omega), List.getElem?_take, if_pos h1]; exact hc i h1
    · by_cases h2 : i < k + d
      · rw [List.append_assoc, List.getElem?_append_right (by omega), hlk, List.getElem?_append_left (by rw [List.length_replicate]; omega), List.getElem?_replicate, if_pos (by omega)]
      · rw [List.getElem?_append_right (by rw [List.length_append, hlk, List.length_replicate]; omega), List.length_append, hlk, List.length_replicate, List.getElem?_drop, show k + d + (i - (k + d)) = i by omega]
        exact hj i (by omega)
  have hlen : (cur.take k ++ List.replicate d (Value.int .u8 x) ++ cur.drop (k + d)).length = cur.length := by
    simp only [List.length_append, List.length_take, List.length_replicate, List.length_drop]; omega
  refine ⟨_, hrun, ⟨below_setRow hb (Nat.le_refl _) _, _, setRow_heap X w.heap.size _ _ _ _ hg, by rw [hlen]; exact hl, fun j hj => hset j 0 (fun q hq => absurd hq (by omega)) (.inr hj)⟩, ?_⟩
  rintro j ⟨hb2, cur2, hg2, hl2, hc2⟩
  rw [hg] at hg2
  have e : cur = cur2 := by
    injection hg2 with h1
    injection h1 with h1
    exact List.toArray_inj h1
  subst e
  exact ⟨below_setRow hb2 (Nat.le_refl _) _, _, setRow_heap X w.heap.size _ _ _ _ hg, by rw [hlen]; exact hl, fun i hi => hset i j hc2 (.inl hi)⟩
set_option maxRecDepth 100000 in
set_option maxHeartbeats 8000000 in
theorem rep64 (A : Option Addr) (c0 : Nat) (x : Int) (w : World) (hC : Kd.C (Kd.int .u8) w A 1 [x]) : Calls Tryd.prog 64 #[.slice A 1 c0, .int .i64 64] w fun e w' => e = .returned (.slice (some ⟨w.heap.size, 0, none⟩) 64 64) ∧ Pre w x 64 w' := by
  obtain ⟨cs, hrunM, hle, _⟩ := Lib.run_makeNoZero (P := Tryd.prog) w #[3] 22 5 Tryd.underlying22 64 (by decide)
  have hcall : (callFunc 67 #[.int .i64 64]).run Tryd.prog w = .ok (.value (.slice (some ⟨w.heap.size, 0, none⟩) 64 cs.size)) ((w.alloc (.cells cs 5)).drewN 2) := by
    rw [run_callFunc_extern Tryd.func67 (by kernel_rfl) (by kernel_rfl) (by kernel_rfl) (e := Extern.BytealgMakeNoZero.makeNoZero #[3] #[22]) (by kernel_rfl)]
    have h64 : ((64 : Nat) : Int) = 64 := rfl
    rw [h64] at hrunM
    rw [hrunM]
    rfl
  obtain ⟨ad, rfl, hx⟩ := Kd.at_int hC 0 (by decide) (by decide)
  have hx0 : w.cell? ad = some (.int .u8 x) := by have := hx; rwa [show (0 : Int).toNat = 0 from rfl, Addr.add_zero'] at this
  have hp0 : Pre w x 0 ((w.alloc (.cells cs 5)).drewN 2) := ⟨pw_below_drewN ((Below.refl _ w).alloc (Nat.le_refl _) _) 2, cs.toList, heap_alloc_new w _, by simpa using hle, fun j hj => absurd hj (by omega)⟩
  obtain ⟨Y, hr, hp1, -⟩ := copy_pre w x 0 1 ((w.alloc (.cells cs 5)).drewN 2) hp0 (by decide) ad 1 c0 64 3 (by decide) (fun j hj => by
    obtain rfl : j = 0 := by omega
    rw [Addr.add_zero']
    exact pw_cell_below hp0.1 hx0)
  rw [Nat.sub_zero] at hr
  have hr : (Builtin.copy_ #[22, 22] 3 #[.slice (some ⟨w.heap.size, 0, none⟩) 64 64, .slice (some ad) 1 c0]).run Tryd.prog ((w.alloc (.cells cs 5)).drewN 2) = .ok (.int .i64 1) Y := hr
  have HP1 := Aside0.mk hp1
  have i1 : (64 : Int) ≤ (cs.size : Int) := by omega
  clear hrunM hC hx hx0 hp0 hp1
  go_enter Tryd.func64, Tryd.ntmps64
  go_wp2_with (go_at_call 66; ((with_reducible refine (mul_any _).mono ?_)))
  rintro e w' ⟨rfl, rfl⟩
  go_wp2
  go_loopw [10] (fun v10 wr => ∃ k : Nat, 1 ≤ k ∧ k ≤ 64 ∧ v10 = .int .i64 (k : Int) ∧ Aside0 (Pre w x k wr)) (fun v10 _ => 64 - (intOf v10).toNat)
  case atStart => exact ⟨1, Nat.le_refl _, by decide, rfl, HP1⟩
  case round =>
    obtain ⟨k, hk1, hk, rfl, HP⟩ := hrel
    by_cases h64 : k < 64
    · have hp := HP.out
      obtain ⟨d, hdd⟩ : ∃ d, d = Nat.min k (64 - k) := ⟨_, rfl⟩
      have hd1 : 1 ≤ d := by rw [hdd]; exact Nat.le_min.2 ⟨hk1, by omega⟩
      have hd2 : d ≤ 64 - k := by rw [hdd]; exact Nat.min_le_right _ _
      have hd3 : d ≤ k := by rw [hdd]; exact Nat.min_le_left _ _
      have kk0 : (k : Int) < 64 := by omega
      have hsrc : ∀ X, Pre w x k X → ∀ j, j < d → X.cell? ((⟨w.heap.size, 0, none⟩ : Addr).add j) = some (.int .u8 x) := by
        rintro X ⟨-, cur, hg, hl, hc⟩ j hj
        rw [add_plain, cell_of_row X w.heap.size j _ _ _ hg]
        simpa using hc j (by omega)
      obtain ⟨i0, hi0, hz0, hz1, hz2⟩ := info_parts info5b
      have hsl1 : ∀ X : World, (Instr.slice 22 (.slice (some ⟨w.heap.size, 0, none⟩) 64 64) (some (.int .i64 (k : Int))) none none).run Tryd.prog X = .ok (.slice (some ⟨w.heap.size, k, none⟩) (64 - k) (64 - k)) X := by
        have h := cut_lo (P := Tryd.prog) 22 5 .i64 Tryd.underlying22 (some ⟨w.heap.size, 0, none⟩) 64 64 (k : Int) (by omega) (by omega) (Nat.le_refl _) hi0 hz1
        rw [Int.toNat_natCast, if_neg (by omega), Option.map_some, Nat.mul_one, add_plain] at h
        exact h
      have hsl2 : ∀ X : World, (Instr.slice 22 (.slice (some ⟨w.heap.size, 0, none⟩) 64 64) none (some (.int .i64 (k : Int))) none).run Tryd.prog X = .ok (.slice (some ⟨w.heap.size, 0, none⟩) k 64) X := by
        have h := cut_hi (P := Tryd.prog) 22 5 .i64 Tryd.underlying22 (some ⟨w.heap.size, 0, none⟩) 64 64 (k : Int) (by omega) (by omega) (Nat.le_refl _) hi0 hz1
        rw [Int.toNat_natCast] at h
        exact h
      have iw : IntKind.i64.wrap ((k : Int) + (d : Int)) = (k : Int) + (d : Int) := IntWalk.i64_in _ (by omega)
      have hp := HP.out
      have HDD := Aside0.mk hdd
      clear hi0 hz0 hz1 hz2 hr hdd
      go_wp2
      refine wp_region_inv2 (fun X => Pre w x k X) (fun X Y => ∀ j, Pre w x j X → Pre w x j Y) (BOf
          [some (.int .i64 (k : Int)), some (.slice (some ⟨w.heap.size, 0, none⟩) 64 64), some (.int .i64 (k : Int)), some (.slice (some ⟨w.heap.size, k, none⟩) (64 - k) (64 - k)), some (.slice (some ⟨w.heap.size, 0, none⟩) 64 64), some (.int .i64 (k : Int)), some (.slice (some ⟨w.heap.size, 0, none⟩) k 64), none, some (.int .i64 ((k : Int) + (d : Int))), some (.int .i64 ((k : Int) + (d : Int)))]
          [(7, fun v X => v = .int .i64 (d : Int) ∧ Pre w x (k + d) X)])
        (by kernel_rfl) (by kernel_rfl) (by kernel_rfl) (fun _ _ h => h) (fun i v w1 w2 h hs => ⟨h.1, fun e => ⟨(h.2.1 e).1, hs _ (h.2.1 e).2⟩, trivial⟩) hp.drew ?all1
      apply Exists.intro
      refine ⟨?hA1, ?steps1, ?fin1⟩
      case hA1 =>
        simp only [lay, Act.put, List.setIfInBounds_toArray, List.set_cons_zero, List.set_cons_succ]
        exact rfl
      case steps1 =>
        repeat' (first | exact Steps2.nil | refine Steps2.cons ?_ ?_)
        all_goals (intro us X F hC hd hu hF; (try have h9 : us 9 = .int .i64 (k : Int) := hu 9 (by decide)); clear hu; simp only [Deps, BOf, pureAt, spAt] at hd hF)
        all_goals (try simp only [Nat.reduceAdd, Nat.reduceEqDiff, false_implies, true_implies, and_true, true_and] at hd hF)
        all_goals (obtain ⟨Y, hr, hp2, hst⟩ := copy_pre w x k d X hC (by omega) ⟨w.heap.size, 0, none⟩ k 64 (64 - k) 3 HDD.out (hsrc X hC))
        all_goals go_simp
        all_goals (first
          | exact hF _ _ hC (fun _ h => h) rfl
          | exact hF _ _ (hst k hC) hst ⟨rfl, hp2⟩)
      case fin1 =>
        intro us X hC hB
        have h9 : us 9 = .int .i64 ((k : Int) + (d : Int)) := (hB 9 (by decide)).1
        have h7 := ((hB 7 (by decide)).2.1 rfl).2
        rw [h9]
        clear hB
        go_wp2
        go_roundw
        case rel => exact ⟨k + d, by omega, by omega, by go_num, ⟨h7⟩⟩
        case measure => simp [intOf]; omega
    · obtain rfl : k = 64 := by omega
      go_wp2
      go_ret
      exact ⟨rfl, HP.out⟩
end Go.Proofs.YtfmdpkilgnccfaaDoor.E
