/- Merged by wip/merge.py: Reg2, Rep, Pad, Code, Hash0, Hash1, Hash2, Kdf, Ref3, Ref4, KdfHashes. -/
import Derived.Test.YtfmdpkilgnccfaaDoorReg
import Derived.Test.YtfmdpkilgnccfaaDoorRowsB
import Derived.Lib.MakeNoZero
import Derived.Laws.IdiomCopy
import Derived.IntWalk
import Derived.WalkMore
import Derived.Laws.EntriesVeiled
import Derived.Test.YtfmdpkilgnccfaaDoorF39
import Derived.Lib.SlBytesConst
import Derived.WalkSpells
import Derived.Test.YtfmdpkilgnccfaaDoorRefS
/- The law on regions once more: an operation also knows that what waits for it has not come up: a variable that is assigned at the region's end is still as it was. -/
namespace Go.Proofs.YtfmdpkilgnccfaaDoor.E
open Go.RowKit
set_option linter.unusedVariables false
set_option linter.unusedSimpArgs false
section
variable {P : Program}
def waitsFor (l : List Oper) (i j : Nat) : Bool := match l[i]? with
  | some o => o.after.toList.any fun e => e.on == j
  | none => false
def StepAt2 (P : Program) (l : List Oper) (A : (Nat → Value) → Act) (u0 : Nat → Value) (C : World → Prop) (St : World → World → Prop) (B : Nat → Value → World → Prop) (j : Nat) (o : Oper) : Prop :=
  ∀ (us : Nat → Value) (w : World) (F : Value → World → Prop), C w → Deps B us w o.after.toList → (∀ i, waitsFor l i j = true → us i = u0 i) → (∀ v w', C w' → St w w' → B j v w' → F v w') →
    if Region.wanted o (yielded l.toArray (A us).tmps) = true then opVal P o (A us) w F else F undef w
def Steps2 (P : Program) (l : List Oper) (A : (Nat → Value) → Act) (u0 : Nat → Value) (C : World → Prop) (St : World → World → Prop) (B : Nat → Value → World → Prop) : Nat → List Oper → Prop
  | _, [] => True
  | j, o :: rest => StepAt2 P l A u0 C St B j o ∧ Steps2 P l A u0 C St B (j + 1) rest
theorem Steps2.nil {l : List Oper} {A : (Nat → Value) → Act} {u0 : Nat → Value} {C : World → Prop} {St : World → World → Prop} {B : Nat → Value → World → Prop} {j : Nat} : Steps2 P l A u0 C St B j [] := trivial
theorem Steps2.cons {l : List Oper} {A : (Nat → Value) → Act} {u0 : Nat → Value} {C : World → Prop} {St : World → World → Prop} {B : Nat → Value → World → Prop} {j : Nat} {o : Oper} {rest : List Oper} (h : StepAt2 P l A u0 C St B j o) (hr : Steps2 P l A u0 C St B (j + 1) rest) : Steps2 P l A u0 C St B j (o :: rest) := ⟨h, hr⟩
theorem Steps2_at {l : List Oper} {A : (Nat → Value) → Act} {u0 : Nat → Value} {C : World → Prop} {St : World → World → Prop} {B : Nat → Value → World → Prop} : ∀ {m : List Oper} {k : Nat}, Steps2 P l A u0 C St B k m → ∀ j o, m[j]? = some o → StepAt2 P l A u0 C St B (k + j) o
  | [], k, h, j, o, hj => by simp at hj
  | p :: rest, k, h, 0, o, hj => by
    obtain rfl : p = o := by simpa using hj
    exact h.1
  | p :: rest, k, h, j + 1, o, hj => by
    rw [show k + (j + 1) = k + 1 + j by omega]
    exact Steps2_at h.2 j o (by simpa using hj)
theorem getD_set_self {listed : Array Bool} {i : Nat} (h : i < listed.size) : (listed.setIfInBounds i true).getD i false = true := by
  simp [Array.getD_eq_getD_getElem?, h]
theorem wpAny_inv2 {l : List Oper} {a : Act} {u0 : Nat → Value} {C : World → Prop} {St : World → World → Prop} {B : Nat → Value → World → Prop} {Q : Exit → Act → World → Prop}
    (hdst : dstsOk l = true) (hback : waitsBack 0 l = true) (hSt : ∀ w, St w w) (hB : ∀ i v w w', B i v w → St w w' → B i v w') (hsteps : Steps2 P l (fun us => lay a l us 0) u0 C St B 0 l)
    (hQ : ∀ us w, C w → (∀ i, i < l.length → B i (us i) w) → Q .normal (lay a l us 0) w) :
    ∀ (fuel : Nat) (listed : Array Bool) (us : Nat → Value) (w : World), listed.size = l.length → falses listed ≤ fuel → C w → (∀ i, listed.getD i false = true → B i (us i) w) →
      (∀ i o, l[i]? = some o → listed.getD i false = true → ∀ e ∈ o.after, listed.getD e.on false = true) → (∀ i, i < l.length → listed.getD i false = false → us i = u0 i) → wpAny P .any l.toArray Q fuel listed (lay a l us 0) w := by
  have hlast : ∀ (listed : Array Bool), listed.size = l.length → Region.ready .any l.toArray listed = [] → ∀ j, j < l.length → listed.getD j false = true := by
    intro listed hs hr j
    induction j using Nat.strongRecOn with
    | _ j ih =>
      intro hj
      cases h : listed.getD j false with
      | true => rfl
      | false =>
        have hmem : j ∈ Region.ready .any l.toArray listed := by
          refine mem_ready.2 ⟨?_, l[j], ?_, fun e he hb => ?_⟩
          · have hlt : j < listed.size := by omega
            simp only [Array.getD_eq_getD_getElem?, Array.getElem?_eq_getElem hlt, Option.getD_some] at h ⊢
            exact h
          · simp [hj]
          · have hw := (waitsBack_at hback j l[j] (by simp [hj]) e (by simpa using he)).2
            exact ih e.on (by omega) (by omega)
        rw [hr] at hmem
        cases hmem
  intro fuel
  induction fuel with
  | zero =>
    intro listed us w hs hf hC hI hcl hun
    have hall : ∀ j, j < l.length → listed.getD j false = true := by
      intro j hj
      cases h : listed.getD j false with
      | true => rfl
      | false =>
        have hlt : j < listed.size := by omega
        have h2 : listed.toList[j]? = some false := by
          simp only [Array.getD_eq_getD_getElem?, Array.getElem?_eq_getElem hlt, Option.getD_some] at h
          rw [Array.getElem?_toList, Array.getElem?_eq_getElem hlt, h]
        have := count_pos _ _ h2
        unfold falses at hf
        omega
    refine ⟨?_, hQ us w hC (fun i hi => hI i (hall i hi))⟩
    refine List.eq_nil_iff_forall_not_mem.2 fun j hj => ?_
    obtain ⟨h1, o, ho, _⟩ := mem_ready.1 hj
    have hjl : j < l.length := by have := (Array.getElem?_eq_some_iff.1 ho).1; simpa using this
    have h2 := hall j hjl
    have hlt : j < listed.size := by omega
    simp only [Array.getD_eq_getD_getElem?, Array.getElem?_eq_getElem hlt, Option.getD_some] at h1 h2
    rw [h1] at h2
    cases h2
  | succ fuel ih =>
    intro listed us w hs hf hC hI hcl hun
    refine ⟨fun hr => hQ us w hC (fun i hi => hI i (hlast listed hs hr i hi)), fun i hi => ?_⟩
    obtain ⟨h1, o, ho, hafter⟩ := mem_ready.1 hi
    have ho' : l[i]? = some o := by simpa using ho
    have hil : i < l.length := (List.getElem?_eq_some_iff.1 ho').1
    have hst := Steps2_at hsteps i o ho'
    rw [Nat.zero_add] at hst
    have hdep : Deps B us w o.after.toList := Deps_of fun e he => by
      have hb := (waitsBack_at hback i o ho' e he).1
      exact hI e.on (hafter e (by simpa using he) hb)
    have hlt : i < listed.size := by omega
    have hi0 : listed.getD i false = false := by
      simp only [Array.getD_eq_getD_getElem?, Array.getElem?_eq_getElem hlt, Option.getD_some] at h1 ⊢
      exact h1
    have hlater : ∀ i', waitsFor l i' i = true → us i' = u0 i' := by
      intro i' hw
      unfold waitsFor at hw
      cases ho2 : l[i']? with
      | none => rw [ho2] at hw; cases hw
      | some o2 =>
        rw [ho2] at hw
        simp only [List.any_eq_true] at hw
        obtain ⟨e, he, hj⟩ := hw
        have he : e ∈ o2.after := by simpa using he
        refine hun i' (List.getElem?_eq_some_iff.1 ho2).1 ?_
        cases hl : listed.getD i' false with
        | false => rfl
        | true =>
          have := hcl i' o2 ho2 hl e he
          rw [beq_iff_eq.1 hj, hi0] at this
          cases this
    have hcnt : falses (listed.setIfInBounds i true) ≤ fuel := by
      have h2 : listed.toList[i]? = some false := by
        simp only [Array.getD_eq_getD_getElem?, Array.getElem?_eq_getElem hlt, Option.getD_some] at h1
        rw [Array.getElem?_toList, Array.getElem?_eq_getElem hlt, h1]
      have := count_set _ _ h2
      unfold falses at hf ⊢
      rw [Array.toList_setIfInBounds]
      omega
    have hmono : ∀ j, listed.getD j false = true → (listed.setIfInBounds i true).getD j false = true := by
      intro j hj
      by_cases hji : i = j
      · subst hji; exact getD_set_self hlt
      · rw [getD_set_ne false hji]; exact hj
    have hnext : ∀ v w', C w' → St w w' → B i v w' → wpAny P .any l.toArray Q fuel (listed.setIfInBounds i true) ((lay a l us 0).put o.dst v) w' := by
      intro v w' hC' hSt' hB'
      have hp := lay_put v l a us 0 i o hdst ho'
      rw [Nat.zero_add] at hp
      rw [hp]
      refine ih _ _ w' (by rw [Array.size_setIfInBounds]; exact hs) hcnt hC' (fun j hj => ?_) (fun j oj hoj hj e he => ?_) (fun j hjl hj => ?_)
      · by_cases hji : j = i
        · subst hji
          simpa [upd] using hB'
        · have e : upd us i v j = us j := by simp [upd, hji]
          rw [e]
          refine hB j _ w w' (hI j ?_) hSt'
          rw [getD_set_ne false (Ne.symm hji)] at hj
          exact hj
      · by_cases hji : j = i
        · subst hji
          rw [ho'] at hoj
          cases hoj
          exact hmono _ (hafter e he (waitsBack_at hback j o ho' e (by simpa using he)).1)
        · rw [getD_set_ne false (Ne.symm hji)] at hj
          exact hmono _ (hcl j oj hoj hj e he)
      · by_cases hji : j = i
        · subst hji
          rw [getD_set_self hlt] at hj
          cases hj
        · rw [getD_set_ne false (Ne.symm hji)] at hj
          have e : upd us i v j = us j := by simp [upd, hji]
          rw [e]
          exact hun j hjl hj
    have h := hst us w (fun v w' => C w' ∧ St w w' ∧ B i v w') hC hdep hlater (fun v w' h1 h2 h3 => ⟨h1, h2, h3⟩)
    unfold wpOp
    simp only [ho]
    split
    · rename_i hw
      rw [if_pos hw] at h
      exact .inl (wp_of_opVal (fun v w' ⟨h1, h2, h3⟩ => hnext v w' h1 h2 h3) h)
    · rename_i hw
      rw [if_neg hw] at h
      exact hnext undef w h.1 h.2.1 h.2.2
def before (a : Act) (l : List Oper) : Nat → Value := fun j => ((l[j]?).bind fun o => o.dst.bind (a.tmps[·]?)).getD undef
theorem wp_region_inv2 {l : List Oper} {id : Nat} {Q : Exit → Act → World → Prop} {a : Act} {w : World} (C : World → Prop) (St : World → World → Prop) (B : Nat → Value → World → Prop)
    (hm : P.follows .mixedOrders = true) (hdst : dstsOk l = true) (hback : waitsBack 0 l = true) (hSt : ∀ w, St w w) (hB : ∀ i v w w', B i v w → St w w' → B i v w') (hC : C w.drew)
    (h : ∃ A : (Nat → Value) → Act, (fun us => lay a l us 0) = A ∧ Steps2 P l A (before a l) C St B 0 l ∧ ∀ us w, C w → (∀ i, i < l.length → B i (us i) w) → Q .normal (A us) w) : (Code.region id l.toArray true).wp P Q a w := by
  obtain ⟨A, hA, hsteps, hQ⟩ := h
  subst hA
  refine wp_region_any hm ?_
  have hself : lay a l (before a l) 0 = a := lay_self a l (before a l) 0 fun j o hj => by rw [Nat.zero_add]; simp [before, hj]
  have hnone : ∀ i, (Array.replicate l.toArray.size false).getD i false = false := by
    intro i
    simp only [Array.getD_eq_getD_getElem?, Array.getElem?_replicate]
    split <;> rfl
  have := wpAny_inv2 (Q := Q) hdst hback hSt hB hsteps hQ l.toArray.size (Array.replicate l.toArray.size false) (before a l) w.drew (by simp) (by unfold falses; simp) hC (fun i hi => by rw [hnone] at hi; cases hi) (fun i o _ hi => by rw [hnone] at hi; cases hi) (fun i _ _ => rfl)
  rw [hself] at this
  exact this
end
end Go.Proofs.YtfmdpkilgnccfaaDoor.E

/- bytes.Repeat of one byte, sixty-four times. -/
namespace Go.Proofs.YtfmdpkilgnccfaaDoor.E
open Go.RowKit Go.Proofs.YtfmdpkilgnccfaaDoorW.PrintWords Go.Proofs.YtfmdpkilgnccfaaDoorW.PrintLast Go.Proofs.YtfmdpkilgnccfaaDoorW.PrintMore Go.Proofs.YtfmdpkilgnccfaaDoor.Pr
set_option linter.unusedVariables false
set_option linter.unusedSimpArgs false
attribute [local go_sem] opVal opUpon
set_option maxHeartbeats 4000000 in
theorem mul64_any (w : World) : Calls Tryd.prog 69 #[.int .u64 1, .int .u64 64] w fun e w' => e = .returned (.tuple #[.int .u64 0, .int .u64 64]) ∧ w = w' := by
  have b1 : bits .and .u64 1 4294967295 = 1 := by decide
  have b2 : bits .and .u64 64 4294967295 = 64 := by decide
  have b3 : bits .and .u64 0 4294967295 = 0 := by decide
  go_enter Tryd.func69, Tryd.ntmps69
  go_wp2
  go_ret2
  exact ⟨rfl, rfl⟩
theorem mul_any (w : World) : Calls Tryd.prog 66 #[.int .u64 1, .int .u64 64] w fun e w' => e = .returned (.tuple #[.int .u64 0, .int .u64 64]) ∧ w = w' := by
  go_enter Tryd.func66, Tryd.ntmps66
  go_wp2_with (go_at_call 69; (refine (mul64_any _).mono ?_; rintro e w' ⟨rfl, rfl⟩))
  go_ret2
  exact ⟨rfl, rfl⟩
/-- The buffer, its first k bytes laid. -/
def Pre (w : World) (x : Int) (k : Nat) (X : World) : Prop := Below w.heap.size w X ∧ ∃ cur : List Value, X.heap[w.heap.size]? = some (.cells cur.toArray 5 (0, 0)) ∧ 64 ≤ cur.length ∧ ∀ j, j < k → cur[j]? = some (.int .u8 x)
theorem Pre.drew {w : World} {x : Int} {k : Nat} {X : World} (h : Pre w x k X) : Pre w x k X.drew := ⟨h.1.drew, h.2⟩
theorem wpList_copy_at {P : Program} {ops : Array Oper} {rest : List Oper} {o : Oper} {a : Act} {w : World} {Q : Exit → Act → World → Prop} (hgd : o.guard = none) (d s : Operand) (t t' : TypeId)
    (ho : o.op = .call { callee := .builtin .copy, args := #[d, s], argTypes := #[t, t'] }) (v u : Value) (hd : a.eval d = v) (hs : a.eval s = u) {v' : Value} {w' : World}
    (hr : (Builtin.copy_ #[t, t'] o.type #[v, u]).run P w = .ok v' w') (h : wpList P ops Q rest (a.put o.dst v') w') : wpList P ops Q (o :: rest) a w := by
  refine wpList_plain hgd fun K hK => ?_
  unfold Oper.wp execOp
  simp only [ho, resolve, invoke, builtin, Sem.run_bind, Sem.run_pure, Result.andThen_ok, List.map_toArray, List.map_cons, List.map_nil, hd, hs, hr]
  exact hK _ _ h
/-- copy(b[k:], s), s being d bytes x. -/
theorem copy_pre (w : World) (x : Int) (k d : Nat) (X : World) (h : Pre w x k X) (hkd : k + d ≤ 64) (a : Addr) (sLen sCap dCap : Nat) (ty : TypeId) (hd : d = Nat.min sLen (64 - k)) (hsrc : ∀ j, j < d → X.cell? (a.add j) = some (.int .u8 x)) :
    ∃ Y, (Builtin.copy_ #[22, 22] ty #[.slice (some ⟨w.heap.size, k, none⟩) (64 - k) dCap, .slice (some a) sLen sCap]).run Tryd.prog X = .ok (.int .i64 (d : Int)) Y ∧ Pre w x (k + d) Y ∧ ∀ j, Pre w x j X → Pre w x j Y := by
  obtain ⟨hb, cur, hg, hl, hc⟩ := h
  have hrun := run_copy_row (P := Tryd.prog) X 22 22 ty 5 w.heap.size k (64 - k) dCap a sLen sCap cur.toArray 5 (List.replicate d (Value.int .u8 x)) Tryd.underlying22 (by kernel_rfl) hg (by rw [List.length_replicate]; exact hd)
    (fun j v hj => by
      have hlt : j < d := by have := (List.getElem?_eq_some_iff.1 hj).1; simpa using this
      rw [List.getElem?_replicate, if_pos hlt] at hj
      cases hj
      exact hsrc j hlt) (by simp; omega) (fun v hv => by rw [List.eq_of_mem_replicate hv]; rfl)
  rw [List.length_replicate] at hrun
  have hset : ∀ (i : Nat) (j : Nat), (∀ q, q < j → cur[q]? = some (Value.int .u8 x)) → i < j ∨ i < k + d → (cur.take k ++ List.replicate d (Value.int .u8 x) ++ cur.drop (k + d))[i]? = some (.int .u8 x) := by
    intro i j hj hi
    have hlk : (cur.take k).length = k := by rw [List.length_take]; omega
    by_cases h1 : i < k
    · rw [List.append_assoc, List.getElem?_append_left (by omega), List.getElem?_take, if_pos h1]; exact hc i h1
    · by_cases h2 : i < k + d
      · rw [List.append_assoc, List.getElem?_append_right (by omega), hlk, List.getElem?_append_left (by rw [List.length_replicate]; omega), List.getElem?_replicate, if_pos (by omega)]
      · rw [List.getElem?_append_right (by rw [List.length_append, hlk, List.length_replicate]; omega), List.length_append, hlk, List.length_replicate, List.getElem?_drop, show k + d + (i - (k + d)) = i by omega]
        exact hj i (by omega)
  have hlen : (cur.take k ++ List.replicate d (Value.int .u8 x) ++ cur.drop (k + d)).length = cur.length := by
    simp only [List.length_append, List.length_take, List.length_replicate, List.length_drop]; omega
  refine ⟨_, hrun, ⟨below_setRow hb (Nat.le_refl _) _, _, setRow_heap X w.heap.size _ _ _ _ hg, by rw [hlen]; exact hl, fun j hj => hset j 0 (fun q hq => absurd hq (by omega)) (.inr hj)⟩, ?_⟩
  rintro j ⟨hb2, cur2, hg2, hl2, hc2⟩
  rw [hg] at hg2
  have e : cur = cur2 := by
    injection hg2 with h1
    injection h1 with h1
    exact List.toArray_inj h1
  subst e
  exact ⟨below_setRow hb2 (Nat.le_refl _) _, _, setRow_heap X w.heap.size _ _ _ _ hg, by rw [hlen]; exact hl, fun i hi => hset i j hc2 (.inl hi)⟩
set_option maxRecDepth 100000 in
set_option maxHeartbeats 8000000 in
theorem rep64 (A : Option Addr) (c0 : Nat) (x : Int) (w : World) (hC : Kd.C (Kd.int .u8) w A 1 [x]) : Calls Tryd.prog 64 #[.slice A 1 c0, .int .i64 64] w fun e w' => e = .returned (.slice (some ⟨w.heap.size, 0, none⟩) 64 64) ∧ Pre w x 64 w' := by
  obtain ⟨cs, hrunM, hle, _⟩ := Lib.run_makeNoZero (P := Tryd.prog) w #[3] 22 5 Tryd.underlying22 64 (by decide)
  have hcall : (callFunc 67 #[.int .i64 64]).run Tryd.prog w = .ok (.value (.slice (some ⟨w.heap.size, 0, none⟩) 64 cs.size)) ((w.alloc (.cells cs 5)).drewN 2) := by
    rw [run_callFunc_extern Tryd.func67 (by kernel_rfl) (by kernel_rfl) (by kernel_rfl) (e := Extern.BytealgMakeNoZero.makeNoZero #[3] #[22]) (by kernel_rfl)]
    have h64 : ((64 : Nat) : Int) = 64 := rfl
    rw [h64] at hrunM
    rw [hrunM]
    rfl
  obtain ⟨ad, rfl, hx⟩ := Kd.at_int hC 0 (by decide) (by decide)
  have hx0 : w.cell? ad = some (.int .u8 x) := by have := hx; rwa [show (0 : Int).toNat = 0 from rfl, Addr.add_zero'] at this
  have hp0 : Pre w x 0 ((w.alloc (.cells cs 5)).drewN 2) := ⟨pw_below_drewN ((Below.refl _ w).alloc (Nat.le_refl _) _) 2, cs.toList, heap_alloc_new w _, by simpa using hle, fun j hj => absurd hj (by omega)⟩
  obtain ⟨Y, hr, hp1, -⟩ := copy_pre w x 0 1 ((w.alloc (.cells cs 5)).drewN 2) hp0 (by decide) ad 1 c0 64 3 (by decide) (fun j hj => by
    obtain rfl : j = 0 := by omega
    rw [Addr.add_zero']
    exact pw_cell_below hp0.1 hx0)
  rw [Nat.sub_zero] at hr
  have hr : (Builtin.copy_ #[22, 22] 3 #[.slice (some ⟨w.heap.size, 0, none⟩) 64 64, .slice (some ad) 1 c0]).run Tryd.prog ((w.alloc (.cells cs 5)).drewN 2) = .ok (.int .i64 1) Y := hr
  have HP1 := Aside0.mk hp1
  have i1 : (64 : Int) ≤ (cs.size : Int) := by omega
  clear hrunM hC hx hx0 hp0 hp1
  go_enter Tryd.func64, Tryd.ntmps64
  go_wp2_with (go_at_call 66; ((with_reducible refine (mul_any _).mono ?_)))
  rintro e w' ⟨rfl, rfl⟩
  go_wp2
  go_loopw [10] (fun v10 wr => ∃ k : Nat, 1 ≤ k ∧ k ≤ 64 ∧ v10 = .int .i64 (k : Int) ∧ Aside0 (Pre w x k wr)) (fun v10 _ => 64 - (intOf v10).toNat)
  case atStart => exact ⟨1, Nat.le_refl _, by decide, rfl, HP1⟩
  case round =>
    obtain ⟨k, hk1, hk, rfl, HP⟩ := hrel
    by_cases h64 : k < 64
    · have hp := HP.out
      obtain ⟨d, hdd⟩ : ∃ d, d = Nat.min k (64 - k) := ⟨_, rfl⟩
      have hd1 : 1 ≤ d := by rw [hdd]; exact Nat.le_min.2 ⟨hk1, by omega⟩
      have hd2 : d ≤ 64 - k := by rw [hdd]; exact Nat.min_le_right _ _
      have hd3 : d ≤ k := by rw [hdd]; exact Nat.min_le_left _ _
      have kk0 : (k : Int) < 64 := by omega
      have hsrc : ∀ X, Pre w x k X → ∀ j, j < d → X.cell? ((⟨w.heap.size, 0, none⟩ : Addr).add j) = some (.int .u8 x) := by
        rintro X ⟨-, cur, hg, hl, hc⟩ j hj
        rw [add_plain, cell_of_row X w.heap.size j _ _ _ hg]
        simpa using hc j (by omega)
      obtain ⟨i0, hi0, hz0, hz1, hz2⟩ := info_parts info5b
      have hsl1 : ∀ X : World, (Instr.slice 22 (.slice (some ⟨w.heap.size, 0, none⟩) 64 64) (some (.int .i64 (k : Int))) none none).run Tryd.prog X = .ok (.slice (some ⟨w.heap.size, k, none⟩) (64 - k) (64 - k)) X := by
        have h := cut_lo (P := Tryd.prog) 22 5 .i64 Tryd.underlying22 (some ⟨w.heap.size, 0, none⟩) 64 64 (k : Int) (by omega) (by omega) (Nat.le_refl _) hi0 hz1
        rw [Int.toNat_natCast, if_neg (by omega), Option.map_some, Nat.mul_one, add_plain] at h
        exact h
      have hsl2 : ∀ X : World, (Instr.slice 22 (.slice (some ⟨w.heap.size, 0, none⟩) 64 64) none (some (.int .i64 (k : Int))) none).run Tryd.prog X = .ok (.slice (some ⟨w.heap.size, 0, none⟩) k 64) X := by
        have h := cut_hi (P := Tryd.prog) 22 5 .i64 Tryd.underlying22 (some ⟨w.heap.size, 0, none⟩) 64 64 (k : Int) (by omega) (by omega) (Nat.le_refl _) hi0 hz1
        rw [Int.toNat_natCast] at h
        exact h
      have iw : IntKind.i64.wrap ((k : Int) + (d : Int)) = (k : Int) + (d : Int) := IntWalk.i64_in _ (by omega)
      have hp := HP.out
      have HDD := Aside0.mk hdd
      clear hi0 hz0 hz1 hz2 hr hdd
      go_wp2
      refine wp_region_inv2 (fun X => Pre w x k X) (fun X Y => ∀ j, Pre w x j X → Pre w x j Y) (BOf
          [some (.int .i64 (k : Int)), some (.slice (some ⟨w.heap.size, 0, none⟩) 64 64), some (.int .i64 (k : Int)), some (.slice (some ⟨w.heap.size, k, none⟩) (64 - k) (64 - k)), some (.slice (some ⟨w.heap.size, 0, none⟩) 64 64), some (.int .i64 (k : Int)), some (.slice (some ⟨w.heap.size, 0, none⟩) k 64), none, some (.int .i64 ((k : Int) + (d : Int))), some (.int .i64 ((k : Int) + (d : Int)))]
          [(7, fun v X => v = .int .i64 (d : Int) ∧ Pre w x (k + d) X)])
        (by kernel_rfl) (by kernel_rfl) (by kernel_rfl) (fun _ _ h => h) (fun i v w1 w2 h hs => ⟨h.1, fun e => ⟨(h.2.1 e).1, hs _ (h.2.1 e).2⟩, trivial⟩) hp.drew ?all1
      apply Exists.intro
      refine ⟨?hA1, ?steps1, ?fin1⟩
      case hA1 =>
        simp only [lay, Act.put, List.setIfInBounds_toArray, List.set_cons_zero, List.set_cons_succ]
        exact rfl
      case steps1 =>
        repeat' (first | exact Steps2.nil | refine Steps2.cons ?_ ?_)
        all_goals (intro us X F hC hd hu hF; (try have h9 : us 9 = .int .i64 (k : Int) := hu 9 (by decide)); clear hu; simp only [Deps, BOf, pureAt, spAt] at hd hF)
        all_goals (try simp only [Nat.reduceAdd, Nat.reduceEqDiff, false_implies, true_implies, and_true, true_and] at hd hF)
        all_goals (obtain ⟨Y, hr, hp2, hst⟩ := copy_pre w x k d X hC (by omega) ⟨w.heap.size, 0, none⟩ k 64 (64 - k) 3 HDD.out (hsrc X hC))
        all_goals go_simp
        all_goals (first
          | exact hF _ _ hC (fun _ h => h) rfl
          | exact hF _ _ (hst k hC) hst ⟨rfl, hp2⟩)
      case fin1 =>
        intro us X hC hB
        have h9 : us 9 = .int .i64 ((k : Int) + (d : Int)) := (hB 9 (by decide)).1
        have h7 := ((hB 7 (by decide)).2.1 rfl).2
        rw [h9]
        clear hB
        go_wp2
        go_roundw
        case rel => exact ⟨k + d, by omega, by omega, by go_num, ⟨h7⟩⟩
        case measure => simp [intOf]; omega
    · obtain rfl : k = 64 := by omega
      go_wp2
      go_ret
      exact ⟨rfl, HP.out⟩
end Go.Proofs.YtfmdpkilgnccfaaDoor.E

/- mac.pad by hand. -/
namespace Go.Proofs.YtfmdpkilgnccfaaDoor.E
open Go.RowKit Go.Proofs.YtfmdpkilgnccfaaDoorW.PrintWords Go.Proofs.YtfmdpkilgnccfaaDoorW.PrintLast Go.Proofs.YtfmdpkilgnccfaaDoorW.PrintMore Go.Proofs.YtfmdpkilgnccfaaDoor.Pr
set_option linter.unusedVariables false
set_option linter.unusedSimpArgs false
/-- A row of bytes that is read. -/
def RowB (P : List Int) (v : Value) (w : World) : Prop := ∃ B d, v = .slice B P.length d ∧ Kd.C (Kd.int .u8) w B P.length P ∧ P.length ≤ d
theorem RowB.sp (P : List Int) : SpBelow (RowB P) := fun v w w' h hb =>
  let ⟨B, d, e, hC, hd⟩ := h
  ⟨B, d, e, Kd.C_below hC hb, hd⟩
theorem RowB.of_R {P : List Int} {w : World} {n : Nat} {v : Value} (h : Kd.R (Kd.int .u8) 5 w n (fun _ => True) v P) : RowB P v w := by
  obtain ⟨B, d, rfl, hl, hC⟩ := Kd.R_reads h
  exact ⟨B, d, rfl, hC, hl⟩
theorem xor8 (a b : Nat) (ha : a < 256) (hb : b < 256) : bits .xor .u8 (a : Int) (b : Int) = ((a ^^^ b : Nat) : Int) := by
  have hb' : (2 : Nat) ^ IntKind.u8.bits = 256 := rfl
  have hx : a ^^^ b < 256 := Nat.xor_lt_two_pow (n := 8) ha hb
  simp only [bits, BitVec.ofInt_natCast, BitVec.toNat_xor, BitVec.toNat_ofNat, hb', Nat.mod_eq_of_lt ha, Nat.mod_eq_of_lt hb]
  rw [IntKind.wrap_u8]; omega
def keyL (l : List Int) : List Int := if l.length ≤ 64 then l else shaL l
def padK (l : List Int) (c : Nat) : List Int := (List.range 64).map fun i => ((((keyL l).getD i 0).toNat ^^^ c : Nat) : Int)
theorem padK_len (l : List Int) (c : Nat) : (padK l c).length = 64 := by simp [padK]
theorem keyL_bytes {l : List Int} (h : ∀ x ∈ l, 0 ≤ x ∧ x ≤ 255) : ∀ x ∈ keyL l, 0 ≤ x ∧ x ≤ 255 := by
  unfold keyL
  split
  · exact h
  · exact shaL_bytes l
theorem keyL_le (l : List Int) : (keyL l).length ≤ 64 := by
  unfold keyL
  split
  · assumption
  · rw [shaL_len]; decide
theorem padK_bytes {l : List Int} (h : ∀ x ∈ l, 0 ≤ x ∧ x ≤ 255) {c : Nat} (hc : c < 256) : ∀ x ∈ padK l c, 0 ≤ x ∧ x ≤ 255 := by
  intro x hx
  obtain ⟨i, _, rfl⟩ := List.mem_map.1 hx
  have hk : ((keyL l).getD i 0).toNat < 256 := by
    rw [List.getD_eq_getElem?_getD]
    cases hg : (keyL l)[i]? with
    | none => decide
    | some y => have := keyL_bytes h y (List.mem_of_getElem? hg); simp only [Option.getD_some]; omega
  have := Nat.xor_lt_two_pow (n := 8) hk hc
  omega
theorem row_of_cells (X : World) (g : Nat) (cur : List Value) (l : List Int) (hg : X.heap[g]? = some (.cells cur.toArray 5 (0, 0))) (hl : l.length ≤ 1000) (h : ∀ j, j < l.length → cur[j]? = some (.int .u8 (l.getD j 0))) : Kd.C (Kd.int .u8) X (some ⟨g, 0, none⟩) l.length l := by
  refine Kd.C_of_reads (d := (0 : Int)) (h1 := fun _ => rfl) ⟨rfl, by omega, fun hn => ⟨_, rfl, fun j hj => ?_⟩⟩
  rw [add_plain, cell_of_row X g j _ _ _ hg]
  simpa using h j hj
/-- The pad, so many bytes of the key laid over it. -/
def PadAt (w : World) (kl : List Int) (c i : Nat) (X : World) : Prop := Below w.heap.size w X ∧ ∃ cur : List Value, X.heap[w.heap.size]? = some (.cells cur.toArray 5 (0, 0)) ∧ 64 ≤ cur.length ∧
  ∀ j, j < 64 → cur[j]? = some (.int .u8 (if j < i then (((kl.getD j 0).toNat ^^^ c : Nat) : Int) else (c : Int)))
set_option maxRecDepth 100000 in
set_option maxHeartbeats 8000000 in
theorem pad_any (A : Option Addr) (c0 : Nat) (l : List Int) (cc : Nat) (hcc : cc < 256) (W : World) (hr : Kd.C (Kd.int .u8) W A l.length l) (hc : l.length ≤ c0) (hb : ∀ x ∈ l, 0 ≤ x ∧ x ≤ 255) (hl : l.length ≤ 1000000) (hG : RootsIn W) :
    Calls Tryd.prog 54 #[.slice A l.length c0, .int .u8 (cc : Int)] W fun e w' => ∃ v, e = .returned v ∧ RowB (padK l cc) v w' ∧ Below W.heap.size W w' := by
  have hpk : padK l cc = (List.range 64).map fun i => ((((keyL l).getD i 0).toNat ^^^ cc : Nat) : Int) := rfl
  have hkb := keyL_bytes hb
  have hkl := keyL_le l
  have HR := Aside0.mk hr
  by_cases h64 : l.length ≤ 64
  · have h3 : ¬ (64 : Int) < (l.length : Int) := by omega
    have hke : keyL l = l := if_pos h64
    rw [hke] at hpk hkb hkl
    obtain ⟨PD, hPD⟩ : ∃ P, P = padK l cc := ⟨_, rfl⟩
    rw [← hPD] at hpk ⊢
    have HPK := Aside0.mk hpk
    have HKB := Aside0.mk hkb
    obtain ⟨kl, hkle⟩ : ∃ kl, kl = l := ⟨_, rfl⟩
    have HB0 := Aside0.mk (Below.refl W.heap.size W)
    have HCK := Aside0.mk hr
    obtain ⟨n, hn⟩ : ∃ n, n = l.length := ⟨_, rfl⟩
    rw [← hn] at HCK hkl h3 ⊢
    rw [← hkle] at HPK HKB HCK
    have hnl : n = kl.length := by rw [hn, hkle]
    have HNL := Aside0.mk hnl
    clear hr hb hG hc hl h64 hpk hkb hke hPD hkle hn hnl
    go_enter Tryd.func54, Tryd.ntmps54
    obtain ⟨B, hBA⟩ : ∃ B, B = A := ⟨_, rfl⟩
    rw [← hBA] at HCK ⊢
    clear hBA
    have hrep := fun (X : World) => rep64 (some ⟨X.heap.size, 0, none⟩) 1 (cc : Int) (X.alloc (.cells #[.int .u8 (cc : Int)] 5)) (lit_C X [(cc : Int)] (0, 0) (by simp))
    have HREP := Aside0.mk hrep
    clear hrep
    go_wp2_with (go_at_call 64; ((with_reducible refine (HREP.out _).mono ?_); rintro e w3 ⟨rfl, hp⟩); have HPR := Aside0.mk hp; clear hp)
    obtain ⟨Wb, hWb⟩ : ∃ Wb, Wb = W.alloc (.cells #[.int .u8 (cc : Int)] 5) := ⟨_, rfl⟩
    have hszb : Wb.heap.size = W.heap.size + 1 := by rw [hWb, World.size_alloc]
    have hp0 : PadAt Wb kl cc 0 w3 := by
      rw [hWb]
      obtain ⟨h1, cur, h2, h3, h4⟩ := HPR.out
      exact ⟨h1, cur, h2, h3, fun j hj => by rw [if_neg (by omega)]; exact h4 j hj⟩
    have HBb : Aside0 (Below W.heap.size W Wb) := ⟨by rw [hWb]; exact HB0.out.alloc HB0.out.size _⟩
    have HCb : Aside0 (Kd.C (Kd.int .u8) Wb B n kl) := ⟨by rw [hWb]; exact Kd.C_alloc HCK.out _⟩
    have HP0 := Aside0.mk hp0
    rw [← hszb]
    clear HPR hp0 hWb hszb HREP HCK HB0
    go_loopw [19] (fun v19 wr => ∃ i : Nat, i ≤ n ∧ v19 = .int .i64 (i : Int) ∧ Aside0 (PadAt Wb kl cc i wr)) (fun v19 _ => n - (intOf v19).toNat)
    case atStart => exact ⟨0, Nat.zero_le _, rfl, HP0⟩
    case round =>
      obtain ⟨i, hi, rfl, HP⟩ := hrel
      by_cases hin : i < n
      · obtain ⟨hbw, cur, hg, hcl, hcur⟩ := HP.out
        obtain ⟨ad, rfl, hx⟩ := Kd.at_int (Kd.C_below HCb.out hbw) (i : Int) (by omega) (by omega)
        rw [Int.toNat_natCast] at hx
        have hxb := HKB.out (rd kl (i : Int)) (rd_mem (by rw [← HNL.out]; exact hin))
        obtain ⟨x, hxe⟩ : ∃ x : Nat, rd kl (i : Int) = (x : Int) := ⟨(rd kl (i : Int)).toNat, by omega⟩
        rw [hxe] at hx hxb
        have hx256 : x < 256 := by omega
        have hci : wr.cell? ⟨Wb.heap.size, i, none⟩ = some (.int .u8 (cc : Int)) := by
          rw [cell_of_row wr Wb.heap.size i _ _ _ hg]
          have := hcur i (by omega)
          rw [if_neg (by omega)] at this
          simpa using this
        have hfi := blk_frozen hg i
        have hxr := xor8 cc x hcc hx256
        have hnew : PadAt Wb kl cc (i + 1) (wr.setCell ⟨Wb.heap.size, i, none⟩ (.int .u8 ((cc ^^^ x : Nat) : Int))) := by
          refine ⟨hbw.setCell (Nat.le_refl _) _, cur.set i (.int .u8 ((cc ^^^ x : Nat) : Int)), ?_, by rw [List.length_set]; exact hcl, fun j hj => ?_⟩
          · have h1 := blk_set hg i (Value.int .u8 ((cc ^^^ x : Nat) : Int))
            simpa only [List.setIfInBounds_toArray] using h1
          · rw [List.getElem?_set]
            by_cases hij : i = j
            · subst hij
              rw [if_pos rfl, if_pos (by omega), if_pos (by omega)]
              have : kl.getD i 0 = (x : Int) := by have := hxe; simpa [rd] using this
              rw [this, Int.toNat_natCast, Nat.xor_comm]
            · rw [if_neg hij, hcur j hj]
              by_cases hji : j < i
              · rw [if_pos hji, if_pos (by omega)]
              · rw [if_neg hji, if_neg (by omega)]
        have HNEW := Aside0.mk hnew
        have kk0 : (i : Int) < (n : Int) := by omega
        have kk1 : (i : Int) < 64 := by omega
        clear hbw hg hcl hcur hxe hnew
        go_wp2
        go_roundw
        case rel => exact ⟨i + 1, by omega, by go_num, HNEW⟩
        case measure => simp [intOf]; omega
      · obtain rfl : i = n := by omega
        go_wp2
        go_ret
        obtain ⟨hbw, cur, hg, hcl, hcur⟩ := HP.out
        have hpl : PD.length = 64 := by rw [HPK.out]; simp
        have hrow := row_of_cells wr Wb.heap.size cur PD hg (by omega) (fun j hj => by
          rw [hcur j (by omega), HPK.out]
          have e : ((List.range 64).map fun i => (((kl.getD i 0).toNat ^^^ cc : Nat) : Int)).getD j 0 = (((kl.getD j 0).toNat ^^^ cc : Nat) : Int) := by
            rw [List.getD_eq_getElem?_getD, List.getElem?_map, List.getElem?_range (by omega)]; rfl
          rw [e]
          by_cases hji : j < i
          · rw [if_pos hji]
          · rw [if_neg hji]
            have : kl.getD j 0 = 0 := by rw [List.getD_eq_getElem?_getD, List.getElem?_eq_none (by rw [← HNL.out]; omega)]; rfl
            rw [this]; simp)
        rw [hpl] at hrow
        exact ⟨_, rfl, ⟨some ⟨Wb.heap.size, 0, none⟩, 64, by rw [hpl]; rfl, by rw [hpl]; exact hrow, by rw [hpl]; exact Nat.le_refl _⟩, below_step HBb.out hbw⟩
  · have h3 : (64 : Int) < (l.length : Int) := by omega
    have hke : keyL l = shaL l := if_neg h64
    rw [hke] at hpk hkb hkl
    obtain ⟨PD, hPD⟩ : ∃ P, P = padK l cc := ⟨_, rfl⟩
    rw [← hPD] at hpk ⊢
    have HPK := Aside0.mk hpk
    have HKB := Aside0.mk hkb
    have hsum := fun (X : World) (hX : Below W.heap.size W (X.alloc (.cells #[.slice A l.length c0] 22))) => sum1 X A l.length c0 l (Kd.C_below hr hX) hc hl hb (hG.below rfl hX)
    have hkl2 := shaL_len l
    obtain ⟨kl, hkle⟩ : ∃ kl, kl = shaL l := ⟨_, rfl⟩
    simp only [← hkle] at hsum
    rw [← hkle] at HPK HKB hkl2 hkl
    have HSUM := Aside0.mk hsum
    clear hr hb hG hc hl h64 hpk hkb hke hPD hkle hsum
    go_enter Tryd.func54, Tryd.ntmps54
    go_wp2_with (go_at_call 22; ((with_reducible refine (HSUM.out _ ?hN).mono ?_)))
    case hN => exact (Below.refl _ W).alloc (Nat.le_refl _) _
    rintro e W1 ⟨v1, rfl, hR1, hb1⟩
    obtain ⟨B, d, rfl, hl1, hC1⟩ := Kd.R_reads hR1
    rw [hkl2] at hC1 hl1 ⊢
    have HB0 := Aside0.mk (below_step ((Below.refl _ W).alloc (Nat.le_refl _) (.cells #[.slice A l.length c0] 22)) hb1)
    have HNL := Aside0.mk hkl2.symm
    obtain ⟨n, hn⟩ : ∃ n, n = 32 := ⟨_, rfl⟩
    rw [← hn] at HNL hC1 ⊢
    have HCK := Aside0.mk hC1
    have hkl : n ≤ 64 := by omega
    clear hR1 hb1 hl1 hC1 hn hkl2 HSUM
    have hrep := fun (X : World) => rep64 (some ⟨X.heap.size, 0, none⟩) 1 (cc : Int) (X.alloc (.cells #[.int .u8 (cc : Int)] 5)) (lit_C X [(cc : Int)] (0, 0) (by simp))
    have HREP := Aside0.mk hrep
    clear hrep
    go_wp2_with (go_at_call 64; ((with_reducible refine (HREP.out _).mono ?_); rintro e w3 ⟨rfl, hp⟩); have HPR := Aside0.mk hp; clear hp)
    obtain ⟨Wb, hWb⟩ : ∃ Wb, Wb = W1.alloc (.cells #[.int .u8 (cc : Int)] 5) := ⟨_, rfl⟩
    have hszb : Wb.heap.size = W1.heap.size + 1 := by rw [hWb, World.size_alloc]
    have hp0 : PadAt Wb kl cc 0 w3 := by
      rw [hWb]
      obtain ⟨h1, cur, h2, h3, h4⟩ := HPR.out
      exact ⟨h1, cur, h2, h3, fun j hj => by rw [if_neg (by omega)]; exact h4 j hj⟩
    have HBb : Aside0 (Below W.heap.size W Wb) := ⟨by rw [hWb]; exact HB0.out.alloc HB0.out.size _⟩
    have HCb : Aside0 (Kd.C (Kd.int .u8) Wb B n kl) := ⟨by rw [hWb]; exact Kd.C_alloc HCK.out _⟩
    have HP0 := Aside0.mk hp0
    rw [← hszb]
    clear HPR hp0 hWb hszb HREP HCK HB0
    go_loopw [19] (fun v19 wr => ∃ i : Nat, i ≤ n ∧ v19 = .int .i64 (i : Int) ∧ Aside0 (PadAt Wb kl cc i wr)) (fun v19 _ => n - (intOf v19).toNat)
    case atStart => exact ⟨0, Nat.zero_le _, rfl, HP0⟩
    case round =>
      obtain ⟨i, hi, rfl, HP⟩ := hrel
      by_cases hin : i < n
      · obtain ⟨hbw, cur, hg, hcl, hcur⟩ := HP.out
        obtain ⟨ad, rfl, hx⟩ := Kd.at_int (Kd.C_below HCb.out hbw) (i : Int) (by omega) (by omega)
        rw [Int.toNat_natCast] at hx
        have hxb := HKB.out (rd kl (i : Int)) (rd_mem (by rw [← HNL.out]; exact hin))
        obtain ⟨x, hxe⟩ : ∃ x : Nat, rd kl (i : Int) = (x : Int) := ⟨(rd kl (i : Int)).toNat, by omega⟩
        rw [hxe] at hx hxb
        have hx256 : x < 256 := by omega
        have hci : wr.cell? ⟨Wb.heap.size, i, none⟩ = some (.int .u8 (cc : Int)) := by
          rw [cell_of_row wr Wb.heap.size i _ _ _ hg]
          have := hcur i (by omega)
          rw [if_neg (by omega)] at this
          simpa using this
        have hfi := blk_frozen hg i
        have hxr := xor8 cc x hcc hx256
        have hnew : PadAt Wb kl cc (i + 1) (wr.setCell ⟨Wb.heap.size, i, none⟩ (.int .u8 ((cc ^^^ x : Nat) : Int))) := by
          refine ⟨hbw.setCell (Nat.le_refl _) _, cur.set i (.int .u8 ((cc ^^^ x : Nat) : Int)), ?_, by rw [List.length_set]; exact hcl, fun j hj => ?_⟩
          · have h1 := blk_set hg i (Value.int .u8 ((cc ^^^ x : Nat) : Int))
            simpa only [List.setIfInBounds_toArray] using h1
          · rw [List.getElem?_set]
            by_cases hij : i = j
            · subst hij
              rw [if_pos rfl, if_pos (by omega), if_pos (by omega)]
              have : kl.getD i 0 = (x : Int) := by have := hxe; simpa [rd] using this
              rw [this, Int.toNat_natCast, Nat.xor_comm]
            · rw [if_neg hij, hcur j hj]
              by_cases hji : j < i
              · rw [if_pos hji, if_pos (by omega)]
              · rw [if_neg hji, if_neg (by omega)]
        have HNEW := Aside0.mk hnew
        have kk0 : (i : Int) < (n : Int) := by omega
        have kk1 : (i : Int) < 64 := by omega
        clear hbw hg hcl hcur hxe hnew
        go_wp2
        go_roundw
        case rel => exact ⟨i + 1, by omega, by go_num, HNEW⟩
        case measure => simp [intOf]; omega
      · obtain rfl : i = n := by omega
        go_wp2
        go_ret
        obtain ⟨hbw, cur, hg, hcl, hcur⟩ := HP.out
        have hpl : PD.length = 64 := by rw [HPK.out]; simp
        have hrow := row_of_cells wr Wb.heap.size cur PD hg (by omega) (fun j hj => by
          rw [hcur j (by omega), HPK.out]
          have e : ((List.range 64).map fun i => (((kl.getD i 0).toNat ^^^ cc : Nat) : Int)).getD j 0 = (((kl.getD j 0).toNat ^^^ cc : Nat) : Int) := by
            rw [List.getD_eq_getElem?_getD, List.getElem?_map, List.getElem?_range (by omega)]; rfl
          rw [e]
          by_cases hji : j < i
          · rw [if_pos hji]
          · rw [if_neg hji]
            have : kl.getD j 0 = 0 := by rw [List.getD_eq_getElem?_getD, List.getElem?_eq_none (by rw [← HNL.out]; omega)]; rfl
            rw [this]; simp)
        rw [hpl] at hrow
        exact ⟨_, rfl, ⟨some ⟨Wb.heap.size, 0, none⟩, 64, by rw [hpl]; rfl, by rw [hpl]; exact hrow, by rw [hpl]; exact Nat.le_refl _⟩, below_step HBb.out hbw⟩
end Go.Proofs.YtfmdpkilgnccfaaDoor.E

/- mac.Code, kdf.Round by hand. -/
namespace Go.Proofs.YtfmdpkilgnccfaaDoor.E
open Go.RowKit Go.Proofs.YtfmdpkilgnccfaaDoorW.PrintWords Go.Proofs.YtfmdpkilgnccfaaDoorW.PrintLast Go.Proofs.YtfmdpkilgnccfaaDoorW.PrintMore Go.Proofs.YtfmdpkilgnccfaaDoor.Pr
set_option linter.unusedVariables false
set_option linter.unusedSimpArgs false
def codeL (k m : List Int) : List Int := shaL (padK k 92 ++ shaL (padK k 54 ++ m))
theorem codeL_len (k m : List Int) : (codeL k m).length = 32 := shaL_len _
theorem codeL_bytes (k m : List Int) : ∀ x ∈ codeL k m, 0 ≤ x ∧ x ≤ 255 := shaL_bytes _
theorem bytes_app {a b : List Int} (ha : ∀ x ∈ a, 0 ≤ x ∧ x ≤ 255) (hb : ∀ x ∈ b, 0 ≤ x ∧ x ≤ 255) : ∀ x ∈ a ++ b, 0 ≤ x ∧ x ≤ 255 := fun x hx => (List.mem_append.1 hx).elim (ha x) (hb x)
set_option maxRecDepth 100000 in
set_option maxHeartbeats 8000000 in
theorem code_any (A0 : Option Addr) (c0 : Nat) (l0 : List Int) (A1 : Option Addr) (c1 : Nat) (l1 : List Int) (W : World) (hr0 : Kd.C (Kd.int .u8) W A0 l0.length l0) (hc0 : l0.length ≤ c0) (hb0 : ∀ x ∈ l0, 0 ≤ x ∧ x ≤ 255) (hl0 : l0.length ≤ 1000000)
    (hr1 : Kd.C (Kd.int .u8) W A1 l1.length l1) (hc1 : l1.length ≤ c1) (hb1 : ∀ x ∈ l1, 0 ≤ x ∧ x ≤ 255) (hl1 : l1.length ≤ 900000) (hG : RootsIn W) :
    Calls Tryd.prog 33 #[.slice A0 l0.length c0, .slice A1 l1.length c1] W fun e w' => ∃ v, e = .returned v ∧ Kd.R (Kd.int .u8) 5 w' W.heap.size (fun _ => True) v (codeL l0 l1) ∧ Below W.heap.size W w' := by
  have h92 : ∀ X, Below W.heap.size W X → Calls Tryd.prog 54 #[.slice A0 l0.length c0, .int .u8 92] X fun e w' => ∃ v, e = .returned v ∧ RowB (padK l0 92) v w' ∧ Below X.heap.size X w' := fun X hX => pad_any A0 c0 l0 92 (by decide) X (Kd.C_below hr0 hX) hc0 hb0 hl0 (hG.below rfl hX)
  have h54 : ∀ X, Below W.heap.size W X → Calls Tryd.prog 54 #[.slice A0 l0.length c0, .int .u8 54] X fun e w' => ∃ v, e = .returned v ∧ RowB (padK l0 54) v w' ∧ Below X.heap.size X w' := fun X hX => pad_any A0 c0 l0 54 (by decide) X (Kd.C_below hr0 hX) hc0 hb0 hl0 (hG.below rfl hX)
  have p92 := padK_len l0 92
  have p54 := padK_len l0 54
  have b92 := padK_bytes hb0 (c := 92) (by decide)
  have b54 := padK_bytes hb0 (c := 54) (by decide)
  obtain ⟨P, hP⟩ : ∃ P, P = padK l0 92 := ⟨_, rfl⟩
  obtain ⟨Q, hQ⟩ : ∃ Q, Q = padK l0 54 := ⟨_, rfl⟩
  have hcode : codeL l0 l1 = shaL (P ++ shaL (Q ++ l1)) := by rw [hP, hQ]; rfl
  rw [← hP] at h92 p92 b92
  rw [← hQ] at h54 p54 b54
  have H92 := Aside0.mk h92
  have H54 := Aside0.mk h54
  have P92 := Aside0.mk p92
  have P54 := Aside0.mk p54
  have B92 := Aside0.mk b92
  have B54 := Aside0.mk b54
  have HR1 := Aside0.mk hr1
  have HB1 := Aside0.mk hb1
  have HG := Aside0.mk hG
  have HCODE := Aside0.mk hcode
  clear h92 h54 p92 p54 b92 b54 hP hQ hcode hr0 hb0 hr1 hb1 hG
  go_enter Tryd.func33, Tryd.ntmps33
  go_wp2_with (go_at_call 54; ((with_reducible refine (H92.out _ (Below.refl _ _)).mono ?_)))
  rintro e w1 ⟨v1, rfl, ⟨B1, d1, rfl, hC1, hd1⟩, hb1⟩
  rw [P92.out] at hC1 hd1 ⊢
  have HC1 := Aside0.mk hC1
  have HW1 := Aside0.mk hb1
  clear hC1 hb1
  go_wp2_with (go_at_call 54; ((with_reducible refine (H54.out _ HW1.out).mono ?_)))
  rintro e w2 ⟨v2, rfl, ⟨B2, d2, rfl, hC2, hd2⟩, hb2⟩
  rw [P54.out] at hC2 hd2 ⊢
  have HC1 := Aside0.mk (Kd.C_below HC1.out hb2)
  have HC2 := Aside0.mk hC2
  have HW2 := Aside0.mk (below_step HW1.out hb2)
  have hs1 := sum2 w2 B2 64 d2 Q A1 l1.length c1 l1 (Kd.C_alloc hC2 _) hd2 (Kd.C_alloc (Kd.C_below HR1.out HW2.out) _) hc1 (Q ++ l1) rfl (by rw [List.length_append, P54.out]; omega) (bytes_app B54.out HB1.out) (HG.out.below rfl (HW2.out.alloc HW2.out.size _))
  have HS1 := Aside0.mk hs1
  clear hC2 hb2 hs1 HW1
  go_wp2_with (go_at_call 22; ((with_reducible refine (HS1.out).mono ?_)))
  rintro e w3 ⟨v3, rfl, hR3, hb3⟩
  obtain ⟨B3, d3, rfl, hl3, hC3⟩ := Kd.R_reads hR3
  have e32 := shaL_len (Q ++ l1)
  rw [e32] at hC3 hl3 ⊢
  have HW3 := Aside0.mk (below_step (HW2.out.alloc HW2.out.size (.cells #[.slice B2 64 d2, .slice A1 l1.length c1] 22)) hb3)
  have hC13 := Kd.C_below (Kd.C_alloc HC1.out (.cells #[.slice B2 64 d2, .slice A1 l1.length c1] 22)) hb3
  have hs2 := sum2 w3 B1 64 d1 P B3 32 d3 (shaL (Q ++ l1)) (Kd.C_alloc hC13 _) hd1 (Kd.C_alloc hC3 _) hl3 (P ++ shaL (Q ++ l1)) rfl (by rw [List.length_append, P92.out, e32]; decide) (bytes_app B92.out (shaL_bytes _)) (HG.out.below rfl (HW3.out.alloc HW3.out.size _))
  have HS2 := Aside0.mk hs2
  clear hR3 hb3 hC3 hC13 hs2 e32 HS1
  go_wp2_with (go_at_call 22; ((with_reducible refine (HS2.out).mono ?_)))
  rintro e w4 ⟨v4, rfl, hR4, hb4⟩
  have HW4 := Aside0.mk (below_step (HW3.out.alloc HW3.out.size (.cells #[.slice B1 64 d1, .slice B3 32 d3] 22)) hb4)
  have HV := Aside0.mk (show Kd.R (Kd.int .u8) 5 w4 W.heap.size (fun _ => True) v4 (codeL l0 l1) by rw [HCODE.out]; exact Kd.R_lower hR4 (HW3.out.alloc HW3.out.size _).size)
  clear hR4 hb4
  go_wp2
  go_ret
  exact ⟨_, rfl, HV.out, HW4.out⟩
theorem SumVal.of_R {P : List Int} {w : World} {n : Nat} {v : Value} (h : Kd.R (Kd.int .u8) 5 w n (fun _ => True) v P) (hp : P.length = 32) : SumVal P v w := by
  obtain ⟨B, d, rfl, hl, hC⟩ := Kd.R_reads h
  rw [hp] at hC hl ⊢
  exact ⟨B, d, rfl, hC, hl⟩
theorem round_any (A0 : Option Addr) (c0 : Nat) (l0 : List Int) (A1 : Option Addr) (c1 : Nat) (l1 : List Int) (W : World) (hr0 : Kd.C (Kd.int .u8) W A0 l0.length l0) (hc0 : l0.length ≤ c0) (hb0 : ∀ x ∈ l0, 0 ≤ x ∧ x ≤ 255) (hl0 : l0.length ≤ 1000000)
    (hr1 : Kd.C (Kd.int .u8) W A1 l1.length l1) (hc1 : l1.length ≤ c1) (hb1 : ∀ x ∈ l1, 0 ≤ x ∧ x ≤ 255) (hl1 : l1.length ≤ 900000) (hG : RootsIn W) :
    Calls Tryd.prog 36 #[.slice A0 l0.length c0, .slice A1 l1.length c1] W fun e w' => ∃ v, e = .returned v ∧ Kd.R (Kd.int .u8) 5 w' W.heap.size (fun _ => True) v (codeL l0 l1) ∧ Below W.heap.size W w' := by
  have H := Aside0.mk (code_any A0 c0 l0 A1 c1 l1 W hr0 hc0 hb0 hl0 hr1 hc1 hb1 hl1 hG)
  clear hr0 hb0 hr1 hb1 hG
  go_enter Tryd.func36, Tryd.ntmps36
  go_wp2_with (go_at_call 33; ((with_reducible refine (H.out).mono ?_)))
  rintro e w1 ⟨v1, rfl, hV, hb⟩
  have HV := Aside0.mk hV
  have HB := Aside0.mk hb
  clear hV hb
  go_wp2
  go_ret
  exact ⟨_, rfl, HV.out, HB.out⟩
end Go.Proofs.YtfmdpkilgnccfaaDoor.E

/- kdf.rounds, kdf.Hash's closure, and the iterator. -/
namespace Go.Proofs.YtfmdpkilgnccfaaDoor.E
open Go.RowKit Go.Shelf Go.Proofs.YtfmdpkilgnccfaaDoorW.PrintWords Go.Proofs.YtfmdpkilgnccfaaDoorW.PrintLast Go.Proofs.YtfmdpkilgnccfaaDoorW.PrintMore Go.Proofs.YtfmdpkilgnccfaaDoor.Pr
attribute [local go_sem] Oper.semAt_some
set_option linter.unusedVariables false
set_option linter.unusedSimpArgs false
def uL (pass salt : List Int) : Nat → List Int
  | 0 => salt ++ [0, 0, 0, 1]
  | i + 1 => codeL pass (uL pass salt i)
def seqU (pass salt : List Int) (n : Nat) : List (List Int) := (List.range n).map fun i => uL pass salt (i + 1)
def xorRow (a b : List Int) : List Int := (List.range 32).map fun j => (((a.getD j 0).toNat ^^^ (b.getD j 0).toNat : Nat) : Int)
def outL (s : List (List Int)) : List Int := s.foldl xorRow (List.replicate 32 0)
def hashL (pass salt : List Int) (n : Nat) : List Int := outL (seqU pass salt n)
theorem xorRow_len (a b : List Int) : (xorRow a b).length = 32 := by simp [xorRow]
theorem toNat_lt {a : List Int} (h : ∀ x ∈ a, 0 ≤ x ∧ x ≤ 255) (j : Nat) : (a.getD j 0).toNat < 256 := by
  rw [List.getD_eq_getElem?_getD]
  cases hg : a[j]? with
  | none => decide
  | some y => have := h y (List.mem_of_getElem? hg); simp only [Option.getD_some]; omega
theorem xorRow_bytes {a b : List Int} (ha : ∀ x ∈ a, 0 ≤ x ∧ x ≤ 255) (hb : ∀ x ∈ b, 0 ≤ x ∧ x ≤ 255) : ∀ x ∈ xorRow a b, 0 ≤ x ∧ x ≤ 255 := by
  intro x hx
  obtain ⟨j, _, rfl⟩ := List.mem_map.1 hx
  have := Nat.xor_lt_two_pow (n := 8) (toNat_lt ha j) (toNat_lt hb j)
  omega
theorem outL_len : ∀ (s : List (List Int)) (o : List Int), o.length = 32 → (s.foldl xorRow o).length = 32
  | [], o, h => h
  | x :: s, o, h => outL_len s _ (xorRow_len _ _)
theorem outL_bytes : ∀ (s : List (List Int)) (o : List Int), (∀ x ∈ o, 0 ≤ x ∧ x ≤ 255) → (∀ r ∈ s, ∀ x ∈ r, 0 ≤ x ∧ x ≤ 255) → ∀ x ∈ s.foldl xorRow o, 0 ≤ x ∧ x ≤ 255
  | [], o, h, _ => h
  | r :: s, o, h, hs => outL_bytes s _ (xorRow_bytes h (hs r List.mem_cons_self)) (fun q hq => hs q (List.mem_cons_of_mem _ hq))
theorem seqU_succ (pass salt : List Int) (n : Nat) : seqU pass salt (n + 1) = seqU pass salt n ++ [uL pass salt (n + 1)] := by simp [seqU, List.range_succ]
theorem seqU_pre (pass salt : List Int) {i n : Nat} (h : i < n) : seqU pass salt i ++ [uL pass salt (i + 1)] <+: seqU pass salt n := by
  rw [← seqU_succ]
  refine ⟨(List.range (n - (i + 1))).map fun j => uL pass salt (((i + 1) + j) + 1), ?_⟩
  have e : List.range n = List.range (i + 1) ++ (List.range (n - (i + 1))).map fun j => (i + 1) + j := by
    rw [← List.range_add]; congr 1; omega
  unfold seqU
  rw [e, List.map_append, List.map_map]
  rfl
def rowV (o : List Int) : Array Value := (o.map (Value.int .u8)).toArray
def mixL (o u : List Int) (i : Nat) : List Int := (List.range 32).map fun j => if j < i then (((o.getD j 0).toNat ^^^ (u.getD j 0).toNat : Nat) : Int) else o.getD j 0
theorem mix_zero (o u : List Int) (h : o.length = 32) : mixL o u 0 = o := by
  apply List.ext_getElem
  · simp [mixL, h]
  · intro i h1 h2
    simp [mixL, List.getD_eq_getElem?_getD, h2]
theorem mix_all (o u : List Int) : mixL o u 32 = xorRow o u := by
  unfold mixL xorRow
  refine List.map_congr_left fun j hj => ?_
  rw [if_pos (List.mem_range.1 hj)]
theorem mix_at (o u : List Int) (i j : Nat) (h : j < 32) : (mixL o u i)[j]? = some (if j < i then (((o.getD j 0).toNat ^^^ (u.getD j 0).toNat : Nat) : Int) else o.getD j 0) := by
  simp [mixL, h]
theorem mix_set (o u : List Int) (i : Nat) (h : i < 32) : (mixL o u i).set i (((o.getD i 0).toNat ^^^ (u.getD i 0).toNat : Nat) : Int) = mixL o u (i + 1) := by
  apply List.ext_getElem?
  intro j
  rw [List.getElem?_set]
  by_cases hj : j < 32
  · rw [mix_at o u (i + 1) j hj]
    by_cases hij : i = j
    · subst hij
      rw [if_pos rfl, if_pos (by simp [mixL]; omega), if_pos (by omega)]
    · rw [if_neg hij, mix_at o u i j hj]
      by_cases h1 : j < i
      · rw [if_pos h1, if_pos (by omega)]
      · rw [if_neg h1, if_neg (by omega)]
  · have e1 : (mixL o u (i + 1)).length = 32 := by simp [mixL]
    have e2 : (mixL o u i).length = 32 := by simp [mixL]
    rw [if_neg (by omega), List.getElem?_eq_none (by omega), List.getElem?_eq_none (by omega)]
theorem rowV_set (o : List Int) (i : Nat) (x : Int) : (rowV o).setIfInBounds i (.int .u8 x) = rowV (o.set i x) := by
  simp [rowV, List.map_set]
set_option maxHeartbeats 8000000 in
theorem with_any (g b7 : Nat) (o u : List Int) (A : Option Addr) (c : Nat) (X : World) (h7 : X.heap[b7]? = some (.cells #[.slice (some ⟨g, 0, none⟩) 32 32] 22 (0, 0))) (hg : X.heap[g]? = some (.cells (rowV o) 5 (0, 0))) (hne : b7 ≠ g) (ho : o.length = 32)
    (hob : ∀ x ∈ o, 0 ≤ x ∧ x ≤ 255) (hu : Kd.C (Kd.int .u8) X A 32 u) (hub : ∀ x ∈ u, 0 ≤ x ∧ x ≤ 255) (hA : ∀ ad, A = some ad → ad.block ≠ g) :
    Calls Tryd.prog 56 #[.slice A 32 c, .pointer (some ⟨b7, 0, none⟩)] X fun e Y => (∃ v, e = .returned v) ∧ Y.heap[g]? = some (.cells (rowV (xorRow o u)) 5 (0, 0)) ∧ (∀ k, k < X.heap.size → k ≠ g → Y.heap[k]? = X.heap[k]?) ∧ Below g X Y := by
  obtain ⟨ad, rfl, -⟩ := Kd.at_int hu 0 (by decide) (by decide)
  have hadg := hA ad rfl
  have hu32 : u.length = 32 := hu.1
  have c7 : X.cell? ⟨b7, 0, none⟩ = some (.slice (some ⟨g, 0, none⟩) 32 32) := blk_cell h7 0
  have H7 := Aside0.mk h7
  have HG := Aside0.mk (show X.heap[g]? = some (.cells (rowV (mixL o u 0)) 5 (0, 0)) by rw [mix_zero o u ho]; exact hg)
  have HU := Aside0.mk hu
  have HOB := Aside0.mk hob
  have HUB := Aside0.mk hub
  have hlt7 := (Array.getElem?_eq_some_iff.1 h7).1
  have hltg := (Array.getElem?_eq_some_iff.1 hg).1
  have HLT := Aside0.mk (And.intro hlt7 hltg)
  clear h7 hg hu hob hub hA hlt7 hltg
  go_enter Tryd.func56, Tryd.ntmps56
  go_wp2
  go_loopw [6] (fun v6 wr => ∃ i : Nat, i ≤ 32 ∧ v6 = .int .i64 (i : Int) ∧ Aside0 (wr.heap[g]? = some (.cells (rowV (mixL o u i)) 5 (0, 0)) ∧ (∀ k, k < X.heap.size → k ≠ g → wr.heap[k]? = X.heap[k]?) ∧ Below g X wr)) (fun v6 _ => 32 - (intOf v6).toNat)
  case atStart => exact ⟨0, Nat.zero_le _, rfl, ⟨HG.out, fun _ _ _ => rfl, Below.refl _ _⟩⟩
  case round =>
    obtain ⟨i, hi, rfl, ⟨⟨hg, hfar, hbw⟩⟩⟩ := hrel
    by_cases h32 : i < 32
    · have c7 : wr.cell? ⟨b7, 0, none⟩ = some (.slice (some ⟨g, 0, none⟩) 32 32) := blk_cell ((hfar b7 HLT.out.1 hne).trans H7.out) 0
      obtain ⟨_, ea, hx0⟩ := Kd.at_int HU.out (i : Int) (by omega) (by omega)
      cases ea
      rw [Int.toNat_natCast] at hx0
      have hx : wr.cell? (ad.add i) = some (.int .u8 (rd u (i : Int))) := by
        have hbk : (ad.add i).block = ad.block := by unfold Addr.add; split <;> rfl
        have hlt : (ad.add i).block < X.heap.size := block_lt_of_cell hx0
        rw [← hx0]
        unfold World.cell?
        rw [hfar _ hlt (by rw [hbk]; exact hadg)]
      have hr : rd u (i : Int) = ((u.getD i 0).toNat : Int) := by
        have := HUB.out (rd u (i : Int)) (rd_mem (by omega))
        have e : rd u (i : Int) = u.getD i 0 := by simp [rd]
        rw [e] at this ⊢
        omega
      rw [hr] at hx
      have hci : wr.cell? ⟨g, i, none⟩ = some (.int .u8 ((o.getD i 0).toNat : Int)) := by
        rw [cell_of_row wr g i (rowV (mixL o u i)) _ _ hg]
        have h1 := mix_at o u i i h32
        rw [if_neg (by omega)] at h1
        have h2 : o.getD i 0 = ((o.getD i 0).toNat : Int) := by
          have := HOB.out (o.getD i 0) (by rw [List.getD_eq_getElem?_getD, List.getElem?_eq_getElem (by omega)]; exact List.getElem_mem _)
          omega
        simp only [rowV, List.getElem?_toArray, List.getElem?_map, h1, Option.map_some]
        rw [← h2]
      have hfi := blk_frozen hg i
      have ha := toNat_lt HOB.out i
      have hb := toNat_lt HUB.out i
      have hset := mix_set o u i h32
      obtain ⟨p, hp⟩ : ∃ p, p = (o.getD i 0).toNat := ⟨_, rfl⟩
      obtain ⟨q, hq⟩ : ∃ q, q = (u.getD i 0).toNat := ⟨_, rfl⟩
      rw [← hp] at hci ha hset
      rw [← hq] at hx hb hset
      have hxr := xor8 p q ha hb
      have HSET := Aside0.mk hset
      have HGG := Aside0.mk hg
      have HFAR := Aside0.mk hfar
      have HBW := Aside0.mk hbw
      have kk0 : (i : Int) < 32 := by omega
      clear hset hg hfar hbw hx0 hr hp hq
      go_wp2
      go_region
      go_wp2
      go_roundw
      case rel =>
        refine ⟨i + 1, by omega, by go_num, ⟨?_, fun k hk hkg => (Below.heap_setCell _ ⟨g, i, none⟩ _ k hkg).trans (HFAR.out k hk hkg), (HBW.out.setCell (Nat.le_refl _) _).drew⟩⟩
        have h1 := blk_set HGG.out i (Value.int .u8 ((p ^^^ q : Nat) : Int))
        rw [rowV_set, HSET.out] at h1
        exact h1
      case measure => simp [intOf]; omega
    · obtain rfl : i = 32 := by omega
      rw [mix_all] at hg
      have HGG := Aside0.mk hg
      have HFAR := Aside0.mk hfar
      have HBW := Aside0.mk hbw
      clear hg hfar hbw
      go_wp2
      go_end0
      exact ⟨⟨_, rfl⟩, HGG.out, HFAR.out, HBW.out⟩
theorem rounds_any (A0 : Option Addr) (n0 c0 : Nat) (A1 : Option Addr) (n1 c1 : Nat) (n : Int) (w : World) : Calls Tryd.prog 57 #[.slice A0 n0 c0, .slice A1 n1 c1, .int .i64 n] w fun e w' =>
    e = .returned (.func (.func 65) #[] #[.pointer (some ⟨w.heap.size + 1, 0, none⟩), .pointer (some ⟨w.heap.size + 1 + 1, 0, none⟩), .pointer (some ⟨w.heap.size, 0, none⟩)]) ∧
    w' = ((w.alloc (.cells #[.slice A0 n0 c0] 22)).alloc (.cells #[.slice A1 n1 c1] 22)).alloc (.cells #[.int .i64 n] 3) := by
  go_enter Tryd.func57, Tryd.ntmps57
  go_wp2
  go_ret
  exact ⟨by simp, rfl⟩
end Go.Proofs.YtfmdpkilgnccfaaDoor.E

/- kdf.rounds$1: the iterator. -/
namespace Go.Proofs.YtfmdpkilgnccfaaDoor.E
open Go.RowKit Go.Shelf Go.Proofs.YtfmdpkilgnccfaaDoorW.PrintWords Go.Proofs.YtfmdpkilgnccfaaDoorW.PrintLast Go.Proofs.YtfmdpkilgnccfaaDoorW.PrintMore Go.Proofs.YtfmdpkilgnccfaaDoor.Pr
attribute [local go_sem] Oper.semAt_some opVal opUpon
set_option linter.unusedVariables false
set_option linter.unusedSimpArgs false
def encU (g : Nat) (x : List Int) (X : World) (vs : Array Value) : Prop := ∃ A c, vs = #[.slice A 32 c] ∧ x.length = 32 ∧ Kd.C (Kd.int .u8) X A 32 x ∧ ∀ ad, A = some ad → ad.block ≠ g
theorem C_keep {g : Nat} {X Y : World} {A : Option Addr} {n : Nat} {xs : List Int} (h : Kd.C (Kd.int .u8) X A n xs) (hk : KpC g X Y) (hA : 0 < n → ∀ ad, A = some ad → ad.block ≠ g) : Kd.C (Kd.int .u8) Y A n xs := by
  refine ⟨h.1, h.2.1, fun hn => ?_⟩
  have hA := hA (by omega)
  obtain ⟨ad, e, hc⟩ := h.2.2 hn
  refine ⟨ad, e, fun j p hj => ?_⟩
  obtain ⟨c, h1, h2, h3⟩ := hc j p hj
  refine ⟨c, h1, h2, fun i u hu => ?_⟩
  have h4 := h3 i u hu
  have hb : (ad.add (j * (Kd.int IntKind.u8).sz + i)).block = ad.block := by unfold Addr.add; split <;> rfl
  rw [← h4]
  unfold World.cell? at h4 ⊢
  cases ho : X.heap[(ad.add (j * (Kd.int IntKind.u8).sz + i)).block]? with
  | none => rw [ho] at h4; cases h4
  | some o =>
    have hcell : o.isCells = true := by
      rw [ho] at h4
      cases o <;> simp_all [Obj.isCells]
    rw [hk.2 _ o ho hcell (by rw [hb]; exact hA ad e)]
theorem KpC.of_below {g : Nat} {X Y : World} (h : Below X.heap.size X Y) : KpC g X Y := ⟨h.size, fun k o ho _ _ => (h.block k (Array.getElem?_eq_some_iff.1 ho).1).trans ho⟩
theorem KpC.trans {g : Nat} {X Y Z : World} (h : KpC g X Y) (k : KpC g Y Z) : KpC g X Z := ⟨Nat.le_trans h.1 k.1, fun j o ho hc hne => k.2 j o (h.2 j o ho hc hne) hc hne⟩
theorem KpC.refl (g : Nat) (X : World) : KpC g X X := ⟨Nat.le_refl _, fun _ _ h _ _ => h⟩
theorem RootsIn.keep {g : Nat} {X Y : World} (h : RootsIn X) (hk : KpC g X Y) (hg : 0 ≠ g) : RootsIn Y := by
  refine ⟨Nat.lt_of_lt_of_le h.1 hk.1, fun i hi => ?_⟩
  have h4 := h.2 i hi
  rw [← h4]
  unfold World.cell? at h4 ⊢
  cases ho : X.heap[0]? with
  | none => rw [ho] at h4; cases h4
  | some o =>
    have hcell : o.isCells = true := by
      rw [ho] at h4
      cases o <;> simp_all [Obj.isCells]
    rw [hk.2 _ o ho hcell hg]
theorem R_block {w : World} {base : Nat} {ok : Nat → Prop} {A : Option Addr} {n c : Nat} {l : List Int} (h : Kd.R (Kd.int .u8) 5 w base ok (.slice A n c) l) : ∀ ad, A = some ad → ok ad.block := by
  intro ad hA
  subst hA
  exact h.1 ad.block rfl
theorem R_ne {w : World} {base g : Nat} {v : Value} {l : List Int} (h : Kd.R (Kd.int .u8) 5 w base (fun _ => True) v l) (hg : g < base) : Kd.R (Kd.int .u8) 5 w base (fun k => k ≠ g) v l :=
  Kd.R_mono (Kd.R_bound h) (fun k hk => by have := hk.2.1; omega)
theorem cat2 (X : World) (A0 : Option Addr) (n0 c0 : Nat) (l0 : List Int) (A1 : Option Addr) (n1 c1 : Nat) (l1 : List Int) (v : Value) (hv : RowVal #[.slice A0 n0 c0, .slice A1 n1 c1] v X) (h0 : Kd.C (Kd.int .u8) X A0 n0 l0) (g0 : n0 ≤ c0) (h1 : Kd.C (Kd.int .u8) X A1 n1 l1) (g1 : n1 ≤ c1) (hlen : (l0 ++ l1).length ≤ 1000000) :
    Calls Tryd.prog 45 #[v] X fun e w' => ∃ v, e = .returned v ∧ Kd.R (Kd.int .u8) 5 w' X.heap.size (fun _ => True) v (l0 ++ l1) ∧ Below X.heap.size X w' := by
  have e0 : l0.length = n0 := h0.1
  have e1 : l1.length = n1 := h1.1
  subst e0; subst e1
  obtain ⟨g, rfl, hg⟩ := hv
  have hrows := rows_blk X g [(A0, c0, l0), (A1, c1, l1)] 22 (0, 0) hg (by
    intro v hv
    simp only [List.mem_cons, List.mem_nil_iff, or_false] at hv
    rcases hv with rfl | rfl
    · exact ⟨h0, g0⟩
    · exact ⟨h1, g1⟩) (by simp)
  have hrows2 : Kd.C (Kd.slice 5 (Kd.int .u8)) X (some ⟨g, 0, none⟩) [l0, l1].length [l0, l1] := hrows
  have hf : slices_Concat_byte_byte.f [l0, l1] = some (l0 ++ l1) := by
    have e : [l0, l1].flatten = l0 ++ l1 := by simp
    unfold slices_Concat_byte_byte.f
    rw [e, if_pos (by omega)]
  exact slices_Concat_byte_byte.calls (some ⟨g, 0, none⟩) 2 [l0, l1] (l0 ++ l1) X hrows2 (Nat.le_refl _) hf
theorem uL_bytes {pass salt : List Int} (h : ∀ x ∈ salt, 0 ≤ x ∧ x ≤ 255) : ∀ i, ∀ x ∈ uL pass salt i, 0 ≤ x ∧ x ≤ 255
  | 0 => bytes_app h (by intro x hx; simp at hx; omega)
  | i + 1 => codeL_bytes _ _
theorem uL_len {pass salt : List Int} (h : salt.length ≤ 800000) : ∀ i, (uL pass salt i).length ≤ 800004
  | 0 => by simp [uL]; omega
  | i + 1 => by rw [uL, codeL_len]; decide
def CatVal (W : World) (As : Option Addr) (ns cs : Nat) (v : Value) (X : World) : Prop := ∃ B d, RowVal #[.slice As ns cs, .slice B 4 d] v X ∧ Kd.C (Kd.int .u8) X B 4 [0, 0, 0, 1] ∧ 4 ≤ d
theorem CatVal.sp (W : World) (As : Option Addr) (ns cs : Nat) : SpBelow (CatVal W As ns cs) := fun v w w' h hb =>
  let ⟨B, d, h1, h2, h3⟩ := h
  ⟨B, d, h1.below hb, Kd.C_below h2 hb, h3⟩
def RneVal (n0 g : Nat) (l : List Int) (v : Value) (X : World) : Prop := Kd.R (Kd.int .u8) 5 X n0 (fun k => k ≠ g) v l
theorem RneVal.sp (n0 g : Nat) (l : List Int) : SpBelow (RneVal n0 g l) := fun v w w' h hb => Kd.R_below h hb
set_option maxRecDepth 100000 in
set_option maxHeartbeats 8000000 in
theorem rounds_iter (l g sb nb pb : Nat) (As : Option Addr) (cs : Nat) (salt : List Int) (Ap : Option Addr) (cp : Nat) (pass : List Int) (n : Nat) (hn : n ≤ 1000) (hsl : salt.length ≤ 800000) (hpl : pass.length ≤ 1000000) (hcs : salt.length ≤ cs) (hcp : pass.length ≤ cp)
    (hsb : ∀ x ∈ salt, 0 ≤ x ∧ x ≤ 255) (hpb : ∀ x ∈ pass, 0 ≤ x ∧ x ≤ 255) (hne1 : sb ≠ g) (hne2 : nb ≠ g) (hne3 : pb ≠ g) (hgr : 0 ≠ g) (hAs : 0 < salt.length → ∀ ad, As = some ad → ad.block ≠ g) (hAp : 0 < pass.length → ∀ ad, Ap = some ad → ad.block ≠ g)
    (K : List (List Int) → World → Prop) (hKS : ∀ s X Y, K s X → StC X Y → K s Y)
    (hY : ∀ s x X vs, s ++ [x] <+: seqU pass salt n → K s X → encU g x X vs → YieldAt Fence.wide 1 Tryd.prog l vs X fun e Y => e = .returned (.bool true) ∧ K (s ++ [x]) Y ∧ KpC g X Y)
    (W : World) (h0 : K [] W) (hb1 : W.heap[sb]? = some (.cells #[.slice As salt.length cs] 22 (0, 0))) (hn1 : W.heap[nb]? = some (.cells #[.int .i64 (n : Int)] 3 (0, 0))) (hp1 : W.heap[pb]? = some (.cells #[.slice Ap pass.length cp] 22 (0, 0)))
    (hS : Kd.C (Kd.int .u8) W As salt.length salt) (hP : Kd.C (Kd.int .u8) W Ap pass.length pass) (hG : RootsIn W) (hgW : g < W.heap.size) :
    CallsIn Fence.wide 2 Tryd.prog 65 #[.func (.yield l) #[] #[], .pointer (some ⟨sb, 0, none⟩), .pointer (some ⟨nb, 0, none⟩), .pointer (some ⟨pb, 0, none⟩)] W fun e W' => (∃ v, e = .returned v) ∧ ∃ s, s = seqU pass salt n ∧ K s W' := by
  refine callsIn_of_wp Tryd.func65 rfl trivial ?_ rfl
  simp only [Tryd.ntmps65, List.size_toArray, List.length_cons, List.length_nil, Nat.reduceAdd, Nat.reduceSub, Array.replicate_succ, Array.replicate_zero, List.push_toArray, List.append_toArray, List.nil_append, List.cons_append]
  have HSB := Aside0.mk hb1
  have HNB := Aside0.mk hn1
  have HPB := Aside0.mk hp1
  have HS := Aside0.mk hS
  have HP := Aside0.mk hP
  have HG := Aside0.mk hG
  have HK0 := Aside0.mk h0
  have HSB' := Aside0.mk hsb
  have HPB' := Aside0.mk hpb
  have hput := fun X : World => num_Put.calls 9 (1 : Int) 4 [0, 0, 0, 1] X (by have := put4 1; simpa [beN] using this)
  have HPUT := Aside0.mk hput
  obtain ⟨ns, hns⟩ : ∃ ns, ns = salt.length := ⟨_, rfl⟩
  obtain ⟨np, hnp⟩ : ∃ np, np = pass.length := ⟨_, rfl⟩
  have HNS := Aside0.mk hns
  have HLEN := Aside0.mk (show (salt ++ [0, 0, 0, 1]).length ≤ 1000000 by rw [List.length_append]; simp; omega)
  have HNP := Aside0.mk hnp
  rw [← hns] at HSB HS hcs hsl
  rw [← hnp] at HPB HP hcp hpl hAp
  clear hb1 hn1 hp1 hS hP hG h0 hsb hpb hput hns hnp
  have cb : W.cell? ⟨sb, 0, none⟩ = some (.slice As ns cs) := blk_cell HSB.out 0
  refine wpIn_wide.2 ?_
  go_wp2
  refine wp_region_inv_ex (fun X => Below W.heap.size W X) (fun X Y => Below X.heap.size X Y) (BOf
      [some (.slice As ns cs), none, none, none, none]
      [(1, RowB [0, 0, 0, 1]), (2, CatVal W As ns cs), (3, RneVal W.heap.size g (uL pass salt 0)), (4, RneVal W.heap.size g (uL pass salt 0))])
    (by kernel_rfl) (by kernel_rfl) (by kernel_rfl) (fun X => Below.refl _ X) (BOf_below ?hspA) (Below.refl _ _).drew ?allA
  case hspA => simp [RowB.sp, CatVal.sp, RneVal.sp]
  apply Exists.intro
  refine ⟨?hAA, ?stepsA, ?finA⟩
  case hAA =>
    simp only [lay, Act.put, List.setIfInBounds_toArray, List.set_cons_zero, List.set_cons_succ, Nat.zero_add, Nat.reduceAdd]
    exact rfl
  case stepsA =>
    repeat' (first | exact Steps.nil | refine Steps.cons ?_ ?_)
    all_goals (intro us X F hC hd hF; simp only [Deps, BOf, pureAt, spAt] at hd hF)
    all_goals (try simp only [Nat.reduceAdd, Nat.reduceEqDiff, false_implies, true_implies, and_true, true_and] at hd hF)
    all_goals (have cbx := pw_cell_below hC cb)
    all_goals (try (first | (refine Exists.elim (show CatVal W As ns cs _ _ from hd.1) ?_; rintro B ⟨d, hcv, hCg, hdg⟩) | (refine Exists.elim (show RowB [0, 0, 0, 1] _ _ from hd.2) ?_; rintro B ⟨d, e, hCg, hdg⟩; have e : us 1 = .slice B 4 d := e)))
    all_goals go_simp
    all_goals (first
      | exact hF _ _ hC (Below.refl _ _) rfl
      | ((with_reducible refine (HPUT.out _).mono ?_); rintro e w' ⟨v, rfl, hv, hb⟩; exact ⟨_, rfl, hF _ _ (below_step hC hb) hb (RowB.of_R hv)⟩)
      | exact hF _ _ (hC.alloc hC.size _) ((Below.refl _ _).alloc (Nat.le_refl _) _) ⟨B, d, RowVal.new _ _, Kd.C_alloc hCg _, hdg⟩
      | (refine (cat2 X As ns cs salt B 4 d [0, 0, 0, 1] _ hcv (Kd.C_below HS.out hC) hcs hCg hdg HLEN.out).mono ?_; rintro e w' ⟨v, rfl, hv, hb⟩; exact ⟨_, rfl, hF _ _ (below_step hC hb) hb (Kd.R_lower (R_ne hv (Nat.lt_of_lt_of_le hgW hC.size)) hC.size)⟩)
      | exact hF _ _ hC (Below.refl _ _) hd.1)
  case finA =>
    intro us X hC hB
    have h4 : RneVal W.heap.size g (uL pass salt 0) (us 4) X := (hB 4 (by decide)).2.2.2.2.1 rfl
    obtain ⟨v0, hv0⟩ : ∃ v, v = us 4 := ⟨_, rfl⟩
    rw [← hv0] at h4 ⊢
    clear hB hv0
    have hK := hKS [] W X HK0.out hC
    have cn : X.cell? ⟨nb, 0, none⟩ = some (.int .i64 (n : Int)) := pw_cell_below hC (blk_cell HNB.out 0)
    have HK := Aside0.mk hK
    have HR := Aside0.mk h4
    have HKP := Aside0.mk (KpC.of_below (g := g) hC)
    clear h4 hK hC
    go_wp2
    refine (wpIn_wide (n := 2)).1 ?_
    gi_loopw [5, 11] (fun v5 v11 wr => ∃ i : Nat, i ≤ n ∧ v11 = .int .i64 (i : Int) ∧ Aside0 (K (seqU pass salt i) wr ∧ KpC g W wr ∧ RneVal W.heap.size g (uL pass salt i) v5 wr)) (fun _ v11 _ => n - (intOf v11).toNat)
    case atStart => exact ⟨0, Nat.zero_le _, rfl, ⟨HK.out, HKP.out, HR.out⟩⟩
    case round =>
      obtain ⟨i, hi, rfl, ⟨⟨hK, hkp, hR⟩⟩⟩ := hrel
      by_cases hin : i < n
      · obtain ⟨A5, c5, rfl, hl5, hC5⟩ := Kd.R_reads hR
        have cp5 : wr.cell? ⟨pb, 0, none⟩ = some (.slice Ap np cp) := blk_cell (hkp.2 pb _ HPB.out rfl hne3) 0
        have hul := uL_len (pass := pass) (salt := salt) (by rw [← HNS.out]; exact hsl) i
        have hrd : Calls Tryd.prog 36 #[.slice Ap np cp, .slice A5 (uL pass salt i).length c5] wr fun e w' => ∃ v, e = .returned v ∧ Kd.R (Kd.int .u8) 5 w' wr.heap.size (fun _ => True) v (codeL pass (uL pass salt i)) ∧ Below wr.heap.size wr w' := by
          have h := round_any Ap cp pass A5 c5 (uL pass salt i) wr (by rw [← HNP.out]; exact C_keep HP.out hkp hAp) (by rw [← HNP.out]; exact hcp) HPB'.out (by rw [← HNP.out]; exact hpl) hC5 hl5 (uL_bytes HSB'.out i) (by omega) (HG.out.keep hkp hgr)
          rw [← HNP.out] at h
          exact h
        obtain ⟨u, hu⟩ : ∃ u, u = uL pass salt i := ⟨_, rfl⟩
        have hu1 : uL pass salt (i + 1) = codeL pass u := by rw [hu]; rfl
        rw [← hu] at hrd hl5 hul ⊢
        have hpre := seqU_pre pass salt hin
        have hsucc := seqU_succ pass salt i
        rw [hu1] at hpre hsucc
        have HRD := Aside0.mk hrd
        have HKW := Aside0.mk hK
        have HKP2 := Aside0.mk hkp
        have HPRE := Aside0.mk hpre
        have HSUCC := Aside0.mk hsucc
        have HU1 := Aside0.mk hu1
        have kk0 : (i : Int) < (n : Int) := by omega
        clear hK hkp hR hC5 hrd hu hu1 hpre hsucc
        gi_wp2
        refine ⟨trivial, (callsIn_wide.2 HRD.out).mono ?_⟩
        rintro e w5 ⟨v5, rfl, hR5, hb5⟩
        have hR6 := R_ne hR5 (Nat.lt_of_lt_of_le hgW HKP2.out.1)
        have hRL := Kd.R_lower hR6 HKP2.out.1
        have hbl : ∀ A m c, v5 = .slice A m c → ∀ ad, A = some ad → ad.block ≠ g := fun A m c e => R_block (by rw [e] at hR6; exact hR6)
        obtain ⟨A6, c6, rfl, hl6, hC6⟩ := Kd.R_reads hR6
        have h32 := codeL_len pass u
        rw [h32] at hl6 hC6 ⊢
        have henc : encU g (codeL pass u) w5 #[.slice A6 32 c6] := ⟨A6, c6, rfl, h32, hC6, hbl A6 _ c6 (by rw [h32])⟩
        have hK5 := hKS _ _ _ HKW.out hb5
        have hkp5 := HKP2.out.trans (KpC.of_below (g := g) hb5)
        rw [h32] at hRL
        have HRL := Aside0.mk hRL
        have HKP5 := Aside0.mk hkp5
        obtain ⟨fn, tmps, assign, body, hy, hYR⟩ := hY _ _ w5 #[.slice A6 32 c6] HPRE.out hK5 henc
        have HYR := Aside0.mk hYR
        clear hR5 hb5 hR6 hRL hbl hC6 h32 henc hK5 hkp5 hYR HRD HKW HKP2
        gi_wp2
        refine HYR.out.mono ?_
        rintro e w6 ⟨rfl, hk6, hkp6⟩
        have HK6 := Aside0.mk hk6
        have HKP6 := Aside0.mk (HKP5.out.trans hkp6)
        have HR6 := Aside0.mk (show RneVal W.heap.size g (codeL pass u) (.slice A6 32 c6) w6 from hkp6.row HRL.out (fun _ hk => hk))
        clear hk6 hkp6 HYR HRL HKP5
        gi_wp2
        go_roundw
        case rel => exact ⟨i + 1, by omega, by go_num, ⟨by rw [HSUCC.out]; exact HK6.out, HKP6.out, by rw [HU1.out]; exact HR6.out⟩⟩
        case measure => simp [intOf]; omega
      · obtain rfl : i = n := by omega
        have HKW := Aside0.mk hK
        clear hK hkp hR
        gi_wp2
        go_end0
        exact ⟨⟨_, rfl⟩, _, rfl, HKW.out⟩
end Go.Proofs.YtfmdpkilgnccfaaDoor.E

/- kdf.Hash by hand. -/
namespace Go.Proofs.YtfmdpkilgnccfaaDoor.E
open Go.RowKit Go.Shelf Go.Proofs.YtfmdpkilgnccfaaDoorW.PrintWords Go.Proofs.YtfmdpkilgnccfaaDoorW.PrintLast Go.Proofs.YtfmdpkilgnccfaaDoorW.PrintMore Go.Proofs.YtfmdpkilgnccfaaDoor.Pr
attribute [local go_sem] Oper.semAt_some
set_option linter.unusedVariables false
set_option linter.unusedSimpArgs false
theorem hash_out (A0 : Option Addr) (n0 c0 : Nat) (A1 : Option Addr) (n1 c1 : Nat) (n : Int) (hn : n < 1 ∨ 1000 < n) (W : World) : Calls Tryd.prog 37 #[.slice A0 n0 c0, .slice A1 n1 c1, .int .i64 n] W fun e w' => e = .returned (.slice none 0 0) ∧ Below W.heap.size W w' := by
  rcases hn with hn | hn
  · have h1 : decide (n < 1) = true := decide_eq_true hn
    go_enter Tryd.func37, Tryd.ntmps37
    go_wp2
    go_ret
    exact ⟨rfl, Below.refl _ _⟩
  · have h0 : ¬ n < 1 := by omega
    have h1 : decide (n < 1) = false := decide_eq_false h0
    go_enter Tryd.func37, Tryd.ntmps37
    go_wp2
    go_ret
    exact ⟨rfl, Below.refl _ _⟩
def JH (w : World) (g : Nat) (s : List (List Int)) (W : World) : Prop :=
  W.heap[g]? = some (.cells (rowV (outL s)) 5 (0, 0)) ∧ W.heap[g + 1]? = some (.cells #[.slice (some ⟨g, 0, none⟩) 32 32] 22 (0, 0)) ∧ W.heap[g + 1 + 1]? = some (.cells #[.func (.func 56) #[] #[.pointer (some ⟨g + 1, 0, none⟩)]] 79 (0, 0)) ∧ Below w.heap.size w W
set_option maxRecDepth 100000 in
set_option maxHeartbeats 8000000 in
theorem hash_any (A0 : Option Addr) (c0 : Nat) (pass : List Int) (A1 : Option Addr) (c1 : Nat) (salt : List Int) (n : Nat) (hn1 : 1 ≤ n) (hn : n ≤ 1000) (w : World) (hr0 : Kd.C (Kd.int .u8) w A0 pass.length pass) (hc0 : pass.length ≤ c0) (hb0 : ∀ x ∈ pass, 0 ≤ x ∧ x ≤ 255) (hl0 : pass.length ≤ 1000000)
    (hr1 : Kd.C (Kd.int .u8) w A1 salt.length salt) (hc1 : salt.length ≤ c1) (hb1 : ∀ x ∈ salt, 0 ≤ x ∧ x ≤ 255) (hl1 : salt.length ≤ 800000) (hG : RootsIn w) :
    Calls Tryd.prog 37 #[.slice A0 pass.length c0, .slice A1 salt.length c1, .int .i64 (n : Int)] w fun e w' => ∃ v, e = .returned v ∧ SumVal (hashL pass salt n) v w' ∧ Below w.heap.size w w' := by
  have hm : ∀ W : World, (Instr.makeSlice 22 (.int .i64 32) (.int .i64 32)).run Tryd.prog W = .ok (.slice (some ⟨W.heap.size, 0, none⟩) 32 32) (W.alloc (.cells (madeCells #[.int .u8 0] 32) 5)) := print_make (P := Tryd.prog) 22 5 .u8 1 Tryd.underlying22 info5b (by decide) 32 (by decide)
  have h0 : ¬ (n : Int) < 1 := by omega
  have h1 : decide ((n : Int) < 1) = false := decide_eq_false h0
  have h2 : ¬ (1000 : Int) < (n : Int) := by omega
  have h3 : decide ((1000 : Int) < (n : Int)) = false := decide_eq_false h2
  have HR0 := Aside0.mk hr0
  have HR1 := Aside0.mk hr1
  have HB0 := Aside0.mk hb0
  have HB1 := Aside0.mk hb1
  have HG := Aside0.mk hG
  obtain ⟨np, hnp⟩ : ∃ np, np = pass.length := ⟨_, rfl⟩
  obtain ⟨ns, hns⟩ : ∃ ns, ns = salt.length := ⟨_, rfl⟩
  rw [← hnp] at HR0 hc0 hl0 ⊢
  rw [← hns] at HR1 hc1 hl1 ⊢
  have HNP := Aside0.mk hnp
  have HNS := Aside0.mk hns
  have hA0 : ∀ ad, A0 = some ad → 0 < np → ad.block < w.heap.size := by
    rintro ad rfl hp
    obtain ⟨_, e, hx⟩ := Kd.at_int HR0.out 0 (by decide) (by omega)
    cases e
    have := block_lt_of_cell hx
    rwa [show (0 : Int).toNat = 0 from rfl, Addr.add_zero'] at this
  have HA0 := Aside0.mk hA0
  have hA1 : ∀ ad, A1 = some ad → 0 < ns → ad.block < w.heap.size := by
    rintro ad rfl hp
    obtain ⟨_, e, hx⟩ := Kd.at_int HR1.out 0 (by decide) (by omega)
    cases e
    have := block_lt_of_cell hx
    rwa [show (0 : Int).toNat = 0 from rfl, Addr.add_zero'] at this
  have HA1 := Aside0.mk hA1
  clear hr0 hr1 hb0 hb1 hG hnp hns hA0 hA1
  refine (callsIn_wide (n := 3)).1 (callsIn_of_wp_marks Tryd.func37 rfl trivial ?_ rfl)
  simp only [Tryd.ntmps37, List.size_toArray, List.length_cons, List.length_nil, Nat.reduceAdd, Nat.reduceSub, Array.replicate_succ, Array.replicate_zero, List.push_toArray, List.append_toArray, List.nil_append, List.cons_append]
  gi_wp2
  refine ⟨trivial, (callsIn_wide.2 (rounds_any A0 np c0 A1 ns c1 (n : Int) _)).mono ?_⟩
  rintro e w1 ⟨rfl, rfl⟩
  gi_wp2
  obtain ⟨W1, hW1⟩ : ∃ W1, W1 = w.alloc (.cells (madeCells #[.int .u8 0] 32) 5) := ⟨_, rfl⟩
  rw [← hW1]
  obtain ⟨W2, hW2⟩ : ∃ W2, W2 = W1.alloc (.cells #[.slice (some ⟨w.heap.size, 0, none⟩) 32 32] 22) := ⟨_, rfl⟩
  rw [← hW2]
  obtain ⟨W3, hW3⟩ : ∃ W3, W3 = W2.alloc (.cells #[.func (.func 56) #[] #[.pointer (some ⟨w.heap.size + 1, 0, none⟩)]] 79) := ⟨_, rfl⟩
  rw [← hW3]
  obtain ⟨W5, hW5⟩ : ∃ W5, W5 = W3.alloc (.cells #[.slice A0 np c0] 22) := ⟨_, rfl⟩
  rw [← hW5]
  obtain ⟨W6, hW6⟩ : ∃ W6, W6 = W5.alloc (.cells #[.slice A1 ns c1] 22) := ⟨_, rfl⟩
  rw [← hW6]
  obtain ⟨W4, hW4⟩ : ∃ W4, W4 = W6.alloc (.cells #[.int .i64 (n : Int)] 3) := ⟨_, rfl⟩
  rw [← hW4]
  have s1 : W1.heap.size = w.heap.size + 1 := by rw [hW1]; simp
  have s2 : W2.heap.size = w.heap.size + 1 + 1 := by rw [hW2]; simp [s1]
  have s3 : W3.heap.size = w.heap.size + 1 + 1 + 1 := by rw [hW3]; simp [s2]
  have s5 : W5.heap.size = w.heap.size + 1 + 1 + 1 + 1 := by rw [hW5]; simp [s3]
  have s6 : W6.heap.size = w.heap.size + 1 + 1 + 1 + 1 + 1 := by rw [hW6]; simp [s5]
  have s4 : W4.heap.size = w.heap.size + 1 + 1 + 1 + 1 + 1 + 1 := by rw [hW4]; simp [s6]
  have b01 : Below w.heap.size w W1 := by rw [hW1]; exact (Below.refl _ w).alloc (Nat.le_refl _) _
  have b12 : Below W1.heap.size W1 W2 := by rw [hW2]; exact (Below.refl _ W1).alloc (Nat.le_refl _) _
  have b23 : Below W2.heap.size W2 W3 := by rw [hW3]; exact (Below.refl _ W2).alloc (Nat.le_refl _) _
  have b35 : Below W3.heap.size W3 W5 := by rw [hW5]; exact (Below.refl _ W3).alloc (Nat.le_refl _) _
  have b56 : Below W5.heap.size W5 W6 := by rw [hW6]; exact (Below.refl _ W5).alloc (Nat.le_refl _) _
  have b64 : Below W6.heap.size W6 W4 := by rw [hW4]; exact (Below.refl _ W6).alloc (Nat.le_refl _) _
  have b34 : Below W3.heap.size W3 W4 := below_step (below_step b35 b56) b64
  have b24 : Below W2.heap.size W2 W4 := below_step b23 b34
  have b14 : Below W1.heap.size W1 W4 := below_step b12 b24
  have b04 : Below w.heap.size w W4 := below_step b01 b14
  have f0 : W4.heap[w.heap.size]? = some (.cells (rowV (outL [])) 5 (0, 0)) := by
    refine (b14.block _ (by omega)).trans ?_
    have e : rowV (outL []) = madeCells #[.int .u8 0] 32 := (made_eq 32).symm
    rw [e, hW1]; exact heap_alloc_new w _
  have f1 : W4.heap[w.heap.size + 1]? = some (.cells #[.slice (some ⟨w.heap.size, 0, none⟩) 32 32] 22 (0, 0)) := by
    refine (b24.block _ (by omega)).trans ?_
    rw [hW2, ← s1]; exact heap_alloc_new W1 _
  have f2 : W4.heap[w.heap.size + 1 + 1]? = some (.cells #[.func (.func 56) #[] #[.pointer (some ⟨w.heap.size + 1, 0, none⟩)]] 79 (0, 0)) := by
    refine (b34.block _ (by omega)).trans ?_
    rw [hW3, ← s2]; exact heap_alloc_new W2 _
  have f3 : W4.heap[w.heap.size + 1 + 1 + 1]? = some (.cells #[.slice A0 np c0] 22 (0, 0)) := by
    refine ((below_step b56 b64).block _ (by omega)).trans ?_
    rw [hW5, ← s3]; exact heap_alloc_new W3 _
  have f4 : W4.heap[w.heap.size + 1 + 1 + 1 + 1]? = some (.cells #[.slice A1 ns c1] 22 (0, 0)) := by
    refine (b64.block _ (by omega)).trans ?_
    rw [hW6, ← s5]; exact heap_alloc_new W5 _
  have f5 : W4.heap[w.heap.size + 1 + 1 + 1 + 1 + 1]? = some (.cells #[.int .i64 (n : Int)] 3 (0, 0)) := by
    rw [hW4, ← s6]; exact heap_alloc_new W6 _
  have HJ0 := Aside0.mk (show JH w w.heap.size [] W4 from ⟨f0, f1, f2, b04⟩)
  have F3 := Aside0.mk f3
  have F4 := Aside0.mk f4
  have F5 := Aside0.mk f5
  clear hW1 hW2 hW3 hW4 hW5 hW6 s1 s2 s3 s5 s6 b01 b12 b23 b35 b56 b64 b34 b24 b14 b04 f0 f1 f2 f3 f4 f5 hm h0 h1 h2 h3
  clear W1 W2 W3 W5 W6
  refine range_iter (gf := 65) (lb := #[.pointer (some ⟨w.heap.size + 1 + 1 + 1 + 1, 0, none⟩), .pointer (some ⟨w.heap.size + 1 + 1 + 1 + 1 + 1, 0, none⟩), .pointer (some ⟨w.heap.size + 1 + 1 + 1, 0, none⟩)]) (by simp [go_sem]) (enters_of Tryd.func65 (by kernel_rfl) rfl) (JH w w.heap.size) (encU w.heap.size) (fun s => s = seqU pass salt n)
    (fun s x => s ++ [x] <+: seqU pass salt n) (KpC w.heap.size) StC
    (fun vs => { tmps := #[.slice A0 np c0, .slice A1 ns c1, .int .i64 (n : Int), undef, undef, undef, .slice none 0 0, .pointer (some ⟨w.heap.size + 1, 0, none⟩), .pointer (some ⟨w.heap.size + 1 + 1, 0, none⟩), vs.getD 0 undef, .int .i64 (n : Int), .bool false, .bool false, .int .i64 (n : Int), .bool false, .bool false, .slice (some ⟨w.heap.size, 0, none⟩) 32 32, .func (.func 56) #[] #[.pointer (some ⟨w.heap.size + 1, 0, none⟩)], .slice A0 np c0, .slice A1 ns c1, .int .i64 (n : Int), .func (.func 65) #[] #[.pointer (some ⟨w.heap.size + 1 + 1 + 1 + 1, 0, none⟩), .pointer (some ⟨w.heap.size + 1 + 1 + 1 + 1 + 1, 0, none⟩), .pointer (some ⟨w.heap.size + 1 + 1 + 1, 0, none⟩)], vs.getD 0 undef, undef, undef, undef, undef], defers := [] }) ?hsz ?hJ0 ?hJl ?henc ?hJS ?hSt ?hKt ?hKl ?hassign ?hbody ?hiter ?hdone
  case hsz => rintro x A vs ⟨A', c', rfl, _⟩; rfl
  case hJ0 =>
    intro r
    obtain ⟨h1, h2, h3, h4⟩ := HJ0.out
    have hb : Below W4.heap.size W4 ((W4.alloc (.deferred (some []))).alloc (.loop r)) := ((Below.refl _ W4).alloc (Nat.le_refl _) _).alloc (by simp) _
    exact ⟨(hb.block _ (by omega)).trans h1, (hb.block _ (by omega)).trans h2, (hb.block _ (by omega)).trans h3, below_step h4 hb⟩
  case hJl =>
    rintro s A r r' ⟨h1, h2, h3, h4⟩ hl
    exact ⟨(World.putObj_heap_other (by omega)).trans h1, (World.putObj_heap_other (by omega)).trans h2, (World.putObj_heap_other (by omega)).trans h3, h4.grown (grownBy_putObj' _ _ _) h4.size (fun k e => by cases e; omega)⟩
  case henc =>
    rintro x A vs r r' ⟨A', c', rfl, hxl, hC, hA⟩ hl
    exact ⟨A', c', rfl, hxl, C_putObj hC hl rfl _, hA⟩
  case hJS =>
    rintro s A B ⟨h1, h2, h3, h4⟩ hst
    have hst' : Below A.heap.size A B := hst
    exact ⟨(hst'.block _ (Array.getElem?_eq_some_iff.1 h1).1).trans h1, (hst'.block _ (Array.getElem?_eq_some_iff.1 h2).1).trans h2, (hst'.block _ (Array.getElem?_eq_some_iff.1 h3).1).trans h3, below_step h4 hst'⟩
  case hSt =>
    rintro A B k o hst hk ho hc
    have hst' : Below A.heap.size A B := hst
    exact (hst'.block _ (Array.getElem?_eq_some_iff.1 ho).1).trans ho
  case hKt => exact fun A B C h k => h.trans k
  case hKl =>
    intro A r r' hl
    refine ⟨by simp, fun k o ho hc hne => ?_⟩
    rw [World.putObj_heap_other (fun e => by rw [e, hl] at ho; cases ho; cases hc)]
    exact ho
  case hassign =>
    rintro l x A vs Kc ⟨A', c', rfl, _⟩ hK
    gi_wp2
    exact hK
  case hbody =>
    rintro l s x A vs hpf ⟨h1, h2, h3, h4⟩ ⟨A2, c2, rfl, hxl, hC, hA⟩
    have hxb : ∀ y ∈ x, 0 ≤ y ∧ y ≤ 255 := by
      have hx : x ∈ seqU pass salt n := hpf.subset (by simp)
      obtain ⟨i, _, rfl⟩ := List.mem_map.1 hx
      exact codeL_bytes _ _
    have hsb : ∀ r ∈ s, ∀ y ∈ r, 0 ≤ y ∧ y ≤ 255 := by
      intro r hr
      have hx : r ∈ seqU pass salt n := hpf.subset (by simp [hr])
      obtain ⟨i, _, rfl⟩ := List.mem_map.1 hx
      exact codeL_bytes _ _
    have hwith := with_any w.heap.size (w.heap.size + 1) (outL s) x A2 c2 A h2 h1 (by omega) (outL_len s _ (by simp)) (outL_bytes s _ (by intro y hy; rw [List.eq_of_mem_replicate hy]; omega) hsb) hC hxb hA
    have c3 : A.cell? ⟨w.heap.size + 1 + 1, 0, none⟩ = some (.func (.func 56) #[] #[.pointer (some ⟨w.heap.size + 1, 0, none⟩)]) := blk_cell h3 0
    have H1 := Aside0.mk h1
    have H2 := Aside0.mk h2
    have H3 := Aside0.mk h3
    have H4 := Aside0.mk h4
    have HWITH := Aside0.mk hwith
    clear h1 h2 h3 h4 hwith hC hpf hxb hsb hA
    gi_wp2
    refine ⟨trivial, (CallsIn.inRound l (callsIn_wide.2 HWITH.out)).mono ?_⟩
    rintro e Y ⟨⟨v, rfl⟩, hg, hfar, hb⟩
    have l1 := (Array.getElem?_eq_some_iff.1 H1.out).1
    have l2 := (Array.getElem?_eq_some_iff.1 H2.out).1
    have l3 := (Array.getElem?_eq_some_iff.1 H3.out).1
    have hgrow : A.heap.size ≤ Y.heap.size := hb.size
    have HJ := Aside0.mk (show JH w w.heap.size (s ++ [x]) Y from ⟨by unfold outL; rw [List.foldl_append]; exact hg, (hfar _ l2 (by omega)).trans H2.out, (hfar _ l3 (by omega)).trans H3.out, H4.out.trans hb⟩)
    have HKP := Aside0.mk (show KpC w.heap.size A Y from ⟨hgrow, fun k o ho _ hne => (hfar k (Array.getElem?_eq_some_iff.1 ho).1 hne).trans ho⟩)
    have HKF := Aside0.mk (show KeepsFrom W4.heap.size A Y from ⟨hgrow, fun k o hk ho hc => (hfar k (Array.getElem?_eq_some_iff.1 ho).1 (by omega)).trans ho⟩)
    clear hg hfar hb c3
    gi_wp2
    exact ⟨HJ.out, HKP.out, by rw [← s4]; exact HKF.out⟩
  case hiter =>
    intro r K hKS hY hk0
    have hb : Below W4.heap.size W4 ((W4.alloc (.deferred (some []))).alloc (.loop r)) := ((Below.refl _ W4).alloc (Nat.le_refl _) _).alloc (by simp) _
    have hbw := below_step HJ0.out.2.2.2 hb
    have hG0 := HG.out.1
    have hnp := HNP.out
    have hns := HNS.out
    exact rounds_iter (W4.heap.size + 1) w.heap.size (w.heap.size + 1 + 1 + 1 + 1) (w.heap.size + 1 + 1 + 1 + 1 + 1) (w.heap.size + 1 + 1 + 1) A1 c1 salt A0 c0 pass n hn (by omega) (by omega) (by omega) (by omega) HB1.out HB0.out (by omega) (by omega) (by omega) (by omega)
      (fun hp ad e => by have := HA1.out ad e (by omega); omega) (fun hp ad e => by have := HA0.out ad e (by omega); omega) K hKS hY _ hk0 (by rw [← hns]; exact (hb.block _ (by omega)).trans F4.out) ((hb.block _ (by omega)).trans F5.out) (by rw [← hnp]; exact (hb.block _ (by omega)).trans F3.out) (by rw [← hns]; exact Kd.C_below HR1.out hbw) (by rw [← hnp]; exact Kd.C_below HR0.out hbw) (HG.out.below rfl hbw) (by simp; omega)
  case hdone =>
    rintro s W rfl ⟨h1, h2, h3, h4⟩ hD
    have c7 : W.cell? ⟨w.heap.size + 1, 0, none⟩ = some (.slice (some ⟨w.heap.size, 0, none⟩) 32 32) := blk_cell h2 0
    have hlen : (outL (seqU pass salt n)).length = 32 := outL_len _ _ (by simp)
    have hrow : Kd.C (Kd.int .u8) W (some ⟨w.heap.size, 0, none⟩) 32 (hashL pass salt n) := by
      have := row_of_cells W w.heap.size ((outL (seqU pass salt n)).map (Value.int .u8)) (outL (seqU pass salt n)) h1 (by rw [hlen]; decide) (fun j hj => by simp [List.getD_eq_getElem?_getD, hj])
      rwa [hlen] at this
    have HROW := Aside0.mk hrow
    have H4 := Aside0.mk h4
    have HD := Aside0.mk hD
    clear h1 h2 h3 h4 hlen hrow hD
    gi_wp2
    have hD3 := HD.out
    refine ⟨by simp, .inl ⟨_, _, rfl, run_takeDeferred hD3, ?_⟩⟩
    refine ⟨_, results_tmp rfl _ _ _, _, rfl, ?_, ?_⟩
    · exact ⟨some ⟨w.heap.size, 0, none⟩, 32, rfl, C_putObj HROW.out hD3 rfl _, Nat.le_refl _⟩
    · exact H4.out.grown (grownBy_putObj' _ _ _) H4.out.size (fun k e => by cases e; omega)
end Go.Proofs.YtfmdpkilgnccfaaDoor.E

/- kdf.Right; the law's known, of chapter 4. -/
namespace Go.Proofs.YtfmdpkilgnccfaaDoor.E
open Go.RowKit Go.Proofs.YtfmdpkilgnccfaaDoorW.PrintWords Go.Proofs.YtfmdpkilgnccfaaDoorW.PrintLast Go.Proofs.YtfmdpkilgnccfaaDoorW.PrintMore Go.Proofs.YtfmdpkilgnccfaaDoor.Pr
set_option linter.unusedVariables false
set_option linter.unusedSimpArgs false
theorem wraps_u8 (n : Int) (h₀ : 0 ≤ n) (h₁ : n < 2 ^ 8) : IntKind.u8.wrap n = n := by rw [IntKind.wrap_u8]; omega
theorem or8 (a b : Nat) (ha : a < 256) (hb : b < 256) : bits .or .u8 (a : Int) (b : Int) = ((a ||| b : Nat) : Int) := (bits_nat .u8 8 (by decide) wraps_u8 a b ha hb).2
theorem xor_zero {x y : Nat} (h : x ^^^ y = 0) : x = y := by
  apply Nat.eq_of_testBit_eq
  intro i
  have := congrArg (fun z => z.testBit i) h
  simp only [Nat.testBit_xor, Nat.zero_testBit] at this
  revert this
  cases x.testBit i <;> cases y.testBit i <;> simp
theorem or_zero {x y : Nat} (h : x ||| y = 0) : x = 0 ∧ y = 0 := by
  constructor
  · apply Nat.eq_of_testBit_eq
    intro i
    have := congrArg (fun z => z.testBit i) h
    simp only [Nat.testBit_or, Nat.zero_testBit] at this ⊢
    revert this
    cases x.testBit i <;> cases y.testBit i <;> simp
  · apply Nat.eq_of_testBit_eq
    intro i
    have := congrArg (fun z => z.testBit i) h
    simp only [Nat.testBit_or, Nat.zero_testBit] at this ⊢
    revert this
    cases x.testBit i <;> cases y.testBit i <;> simp
theorem eq_loop (a b : List Int) (ha : ∀ x ∈ a, 0 ≤ x ∧ x ≤ 255) (hb : ∀ x ∈ b, 0 ≤ x ∧ x ≤ 255) (hl : a.length = b.length) (hs : a.length < 1000000) : ∀ (d i p k : Nat), i + d = a.length → p < 256 → mac_Equal.l0 (k + d + 1) a b (p : Int) (a.length : Int) (i : Int) = some (decide (p = 0 ∧ a.drop i = b.drop i))
  | 0, i, p, k, hi, hp => by
    simp only [mac_Equal.l0]
    rw [if_neg (by omega), List.drop_eq_nil_of_le (by omega), List.drop_eq_nil_of_le (by omega)]
    congr 1
    by_cases h : p = 0
    · subst h; rfl
    · rw [decide_eq_false (fun hh => h hh.1)]; exact beq_eq_false_iff_ne.2 (by omega)
  | d + 1, i, p, k, hi, hp => by
    obtain ⟨K, hK⟩ : ∃ K, K = k + d + 1 := ⟨_, rfl⟩
    rw [show k + (d + 1) + 1 = K + 1 by omega]
    simp only [mac_Equal.l0]
    rw [hK]
    have hia : i < a.length := by omega
    have hib : i < b.length := by omega
    have hx := ha _ (rd_mem hia)
    have hy := hb _ (rd_mem hib)
    obtain ⟨x, hxe⟩ : ∃ x : Nat, rd a (i : Int) = (x : Int) := ⟨(rd a (i : Int)).toNat, by omega⟩
    obtain ⟨y, hye⟩ : ∃ y : Nat, rd b (i : Int) = (y : Int) := ⟨(rd b (i : Int)).toNat, by omega⟩
    have hx2 : x < 256 := by omega
    have hy2 : y < 256 := by omega
    have hxy : x ^^^ y < 256 := Nat.xor_lt_two_pow (n := 8) hx2 hy2
    rw [if_pos (by omega), if_pos (by omega), if_pos (by omega), if_pos (by omega), hxe, hye, xor8 x y hx2 hy2, or8 p _ hp hxy, w64_succ i (by omega), eq_loop a b ha hb hl hs d (i + 1) (p ||| (x ^^^ y)) k (by omega) (Nat.or_lt_two_pow (n := 8) hp hxy)]
    have da : a.drop i = (x : Int) :: a.drop (i + 1) := by
      rw [List.drop_eq_getElem_cons hia]; congr 1; rw [← hxe]; simp [rd, List.getD_eq_getElem?_getD, hia]
    have db : b.drop i = (y : Int) :: b.drop (i + 1) := by
      rw [List.drop_eq_getElem_cons hib]; congr 1; rw [← hye]; simp [rd, List.getD_eq_getElem?_getD, hib]
    rw [da, db]
    congr 1
    refine decide_eq_decide.2 ⟨?_, ?_⟩
    · rintro ⟨h1, h2⟩
      obtain ⟨h3, h4⟩ := or_zero h1
      refine ⟨h3, ?_⟩
      rw [xor_zero h4, h2]
    · rintro ⟨h1, h2⟩
      injection h2 with h3 h4
      have : x = y := by omega
      subst this
      subst h1
      exact ⟨by simp, h4⟩
theorem equal_some (a b : List Int) (ha : ∀ x ∈ a, 0 ≤ x ∧ x ≤ 255) (hb : ∀ x ∈ b, 0 ≤ x ∧ x ≤ 255) (hs : a.length < 1000000) : mac_Equal.f (a.length + 1) a b = some (decide (a = b)) := by
  unfold mac_Equal.f
  by_cases hl : a.length = b.length
  · rw [if_pos (by omega)]
    have := eq_loop a b ha hb hl hs a.length 0 0 0 (by omega) (by decide)
    rw [Nat.zero_add] at this
    rw [show ((0 : Nat) : Int) = 0 from rfl] at this
    rw [this]
    simp
  · rw [if_neg (by omega), decide_eq_false (fun h => hl (by rw [h]))]
theorem hashL_len (p s : List Int) (n : Nat) : (hashL p s n).length = 32 := outL_len _ _ (by simp)
theorem hashL_bytes (p s : List Int) (n : Nat) : ∀ x ∈ hashL p s n, 0 ≤ x ∧ x ≤ 255 := outL_bytes _ _ (by intro y hy; rw [List.eq_of_mem_replicate hy]; omega) (by
  intro r hr
  obtain ⟨i, _, rfl⟩ := List.mem_map.1 hr
  exact codeL_bytes _ _)
set_option maxRecDepth 100000 in
set_option maxHeartbeats 8000000 in
theorem right_any (A0 : Option Addr) (c0 : Nat) (pass : List Int) (A1 : Option Addr) (c1 : Nat) (salt : List Int) (n : Nat) (hn1 : 1 ≤ n) (hn : n ≤ 1000) (A2 : Option Addr) (c2 : Nat) (hs : List Int) (w : World) (hr0 : Kd.C (Kd.int .u8) w A0 pass.length pass) (hc0 : pass.length ≤ c0) (hb0 : ∀ x ∈ pass, 0 ≤ x ∧ x ≤ 255) (hl0 : pass.length ≤ 1000000)
    (hr1 : Kd.C (Kd.int .u8) w A1 salt.length salt) (hc1 : salt.length ≤ c1) (hb1 : ∀ x ∈ salt, 0 ≤ x ∧ x ≤ 255) (hl1 : salt.length ≤ 800000) (hr2 : Kd.C (Kd.int .u8) w A2 hs.length hs) (hc2 : hs.length ≤ c2) (hb2 : ∀ x ∈ hs, 0 ≤ x ∧ x ≤ 255) (hG : RootsIn w) :
    Calls Tryd.prog 43 #[.slice A0 pass.length c0, .slice A1 salt.length c1, .int .i64 (n : Int), .slice A2 hs.length c2] w fun e w' => e = .returned (.bool (decide (hashL pass salt n = hs))) ∧ Below w.heap.size w w' := by
  have HH := Aside0.mk (hash_any A0 c0 pass A1 c1 salt n hn1 hn w hr0 hc0 hb0 hl0 hr1 hc1 hb1 hl1 hG)
  have HR2 := Aside0.mk hr2
  have h32 := hashL_len pass salt n
  have hhb := hashL_bytes pass salt n
  obtain ⟨D, hD⟩ : ∃ D, D = hashL pass salt n := ⟨_, rfl⟩
  rw [← hD] at HH h32 hhb ⊢
  have heq := equal_some D hs hhb hb2 (by rw [h32]; decide)
  have HEQ := Aside0.mk heq
  have H32 := Aside0.mk h32
  clear hr0 hb0 hr1 hb1 hr2 hb2 hG hD h32 hhb heq
  have hnn := fun (w : World) (a : Option Addr) (n c : Nat) => run_neq_slice_nil_any (P := Tryd.prog) w 22 5 a n c 0 0 Tryd.underlying22
  go_enter Tryd.func43, Tryd.ntmps43
  go_wp2_with (go_at_call 37; ((with_reducible refine (HH.out).mono ?_)))
  rintro e w1 ⟨v1, rfl, ⟨B, d, rfl, hC, hd⟩, hb⟩
  obtain ⟨ad, rfl, -⟩ := Kd.at_int hC 0 (by decide) (by decide)
  have he := mac_Equal.calls (D.length + 1) (some ad) d D A2 c2 hs (decide (D = hs)) w1 (by rw [H32.out]; exact hC) (by rw [H32.out]; exact hd) (Kd.C_below HR2.out hb) hc2 HEQ.out
  rw [H32.out] at he
  have HE := Aside0.mk he
  have HB := Aside0.mk hb
  clear hC hb he
  go_wp2_with (go_at_call 39; ((with_reducible refine (HE.out).mono ?_); rintro e w2 ⟨rfl, hdr⟩); have HDR := Aside0.mk (below_step HB.out hdr.below); clear hdr)
  go_ret
  exact ⟨rfl, HDR.out⟩
theorem right_out (A0 : Option Addr) (n0 c0 : Nat) (A1 : Option Addr) (n1 c1 : Nat) (n : Int) (A2 : Option Addr) (n2 c2 : Nat) (hn : n < 1 ∨ 1000 < n) (w : World) :
    Calls Tryd.prog 43 #[.slice A0 n0 c0, .slice A1 n1 c1, .int .i64 n, .slice A2 n2 c2] w fun e w' => e = .returned (.bool false) ∧ Below w.heap.size w w' := by
  have HH := Aside0.mk (hash_out A0 n0 c0 A1 n1 c1 n hn w)
  clear hn
  have hnn := fun (w : World) (a : Option Addr) (n c : Nat) => run_neq_slice_nil_any (P := Tryd.prog) w 22 5 a n c 0 0 Tryd.underlying22
  go_enter Tryd.func43, Tryd.ntmps43
  go_wp2_with (go_at_call 37; ((with_reducible refine (HH.out).mono ?_); rintro e w2 ⟨rfl, hb⟩); have HB := Aside0.mk hb; clear hb)
  go_ret
  exact ⟨rfl, HB.out⟩
set_option maxRecDepth 100000 in
theorem hash_pw : hashL [112, 97, 115, 115, 119, 111, 114, 100] [115, 97, 108, 116] 1 = [18, 15, 182, 207, 252, 248, 179, 44, 67, 231, 34, 82, 86, 196, 248, 55, 168, 101, 72, 201, 44, 204, 53, 72, 8, 5, 152, 124, 183, 11, 225, 123] := by decide +kernel
set_option maxHeartbeats 4000000 in
set_option maxRecDepth 100000 in
theorem known4 (w : World) (hG : RootsIn w) : Calls Tryd.prog 34 #[] w fun e w' => e = .returned (.bool true) ∧ Below w.heap.size w w' := by
  have kc := fun (w : World) (C : Array Value) (n c : Nat) => Lib.run_convert_bytes_const (P := Tryd.prog) w 22 5 C n c Tryd.underlying22 Tryd.underlying5
  have hpw := lit_C w [112, 97, 115, 115, 119, 111, 114, 100] (8, 9) (by simp)
  have hsa := lit_C (w.alloc (.cells ([112, 97, 115, 115, 119, 111, 114, 100].map (Value.int .u8)).toArray 5 (8, 9))) [115, 97, 108, 116] (4, 5) (by simp)
  have HB2 := Aside0.mk (((Below.refl _ w).alloc (Nat.le_refl _) (.cells ([112, 97, 115, 115, 119, 111, 114, 100].map (Value.int .u8)).toArray 5 (8, 9))).alloc (by simp) (.cells ([115, 97, 108, 116].map (Value.int .u8)).toArray 5 (4, 5)))
  have hH := hash_any (some ⟨w.heap.size, 0, none⟩) 8 [112, 97, 115, 115, 119, 111, 114, 100] (some ⟨w.heap.size + 1, 0, none⟩) 4 [115, 97, 108, 116] 1 (by decide) (by decide) ((w.alloc (.cells ([112, 97, 115, 115, 119, 111, 114, 100].map (Value.int .u8)).toArray 5 (8, 9))).alloc (.cells ([115, 97, 108, 116].map (Value.int .u8)).toArray 5 (4, 5)))
    (Kd.C_alloc hpw _) (by decide) (by decide) (by decide) (by simpa using hsa) (by decide) (by decide) (by decide) (hG.below rfl HB2.out)
  rw [hash_pw] at hH
  have HH : Aside0 (Calls Tryd.prog 37 #[.slice (some ⟨w.heap.size, 0, none⟩) 8 8, .slice (some ⟨w.heap.size + 1, 0, none⟩) 4 4, .int .i64 1] ((w.alloc (.cells ([112, 97, 115, 115, 119, 111, 114, 100].map (Value.int .u8)).toArray 5 (8, 9))).alloc (.cells ([115, 97, 108, 116].map (Value.int .u8)).toArray 5 (4, 5))) fun e w' => ∃ v, e = .returned v ∧ SumVal [18, 15, 182, 207, 252, 248, 179, 44, 67, 231, 34, 82, 86, 196, 248, 55, 168, 101, 72, 201, 44, 204, 53, 72, 8, 5, 152, 124, 183, 11, 225, 123] v w' ∧ Below _ _ w') := ⟨hH⟩
  have kc2 := kc (w.alloc (.cells ([112, 97, 115, 115, 119, 111, 114, 100].map (Value.int .u8)).toArray 5 (8, 9))) ([115, 97, 108, 116].map (Value.int .u8)).toArray 4 4
  simp only [World.size_alloc, List.map_cons, List.map_nil] at kc2
  simp only [List.map_cons, List.map_nil] at HH HB2
  clear hpw hsa hH hG
  go_enter Tryd.func34, Tryd.ntmps34
  go_wp2_with (go_at_call 37; go_loud (refine (HH.out).mono ?_))
  rintro e w1 ⟨v1, rfl, ⟨B, d, rfl, hC, hd⟩, hb⟩
  have HB := Aside0.mk (HB2.out.trans (hb.mono (by simp; omega)))
  obtain ⟨ad, rfl, h0⟩ := Kd.at_int hC 0 (by decide) (by decide)
  obtain ⟨_, e1, h1⟩ := Kd.at_int hC 1 (by decide) (by decide)
  obtain ⟨_, e31, h31⟩ := Kd.at_int hC 31 (by decide) (by decide)
  cases e1; cases e31
  have g0 : w1.cell? ad = some (.int .u8 18) := by have := h0; rwa [show (0 : Int).toNat = 0 from rfl, Addr.add_zero'] at this
  have g1 : w1.cell? ⟨ad.block, ad.off + 1, none⟩ = some (.int .u8 15) := by have := h1; rwa [show (1 : Int).toNat = 0 + 1 from rfl, Addr.add_succ'] at this
  have g31 : w1.cell? ⟨ad.block, ad.off + 31, none⟩ = some (.int .u8 123) := by have := h31; rwa [show (31 : Int).toNat = 30 + 1 from rfl, Addr.add_succ'] at this
  have HO := Aside0.mk (fun X : World => hash_out none 0 0 none 0 0 0 (.inl (by decide)) X)
  clear h0 h1 h31 hC hb
  go_wp2_with (go_at_call 37; ((with_reducible refine (HO.out _).mono ?_); rintro e w2 ⟨rfl, hb2⟩); have HB3 := Aside0.mk (below_step HB.out hb2); clear hb2)
  go_ret
  exact ⟨rfl, HB3.out⟩
end Go.Proofs.YtfmdpkilgnccfaaDoor.E

/- The document's with and Code by hand. -/
namespace Go.Proofs.YtfmdpkilgnccfaaDoor.E
open Go.RowKit Go.Proofs.YtfmdpkilgnccfaaDoorW.PrintWords Go.Proofs.YtfmdpkilgnccfaaDoorW.PrintLast Go.Proofs.YtfmdpkilgnccfaaDoorW.PrintMore Go.Proofs.YtfmdpkilgnccfaaDoor.Pr
set_option linter.unusedVariables false
set_option linter.unusedSimpArgs false
theorem R_of_row {w : World} {base g : Nat} {l : List Int} {n : Nat} (hg : w.heap[g]? = some (.cells (rowV l) 5 (0, 0))) (hb : base ≤ g) (hn : l.length = n) (hm : n ≤ 1000) : Kd.R (Kd.int .u8) 5 w base (fun _ => True) (.slice (some ⟨g, 0, none⟩) n n) l := by
  subst hn
  refine ⟨fun _ _ => trivial, l.map (Value.int .u8), ⟨by simp [Kd.int, Kd.scalar], .inr ⟨g, l.length, rowV l, rfl, hb, hg, Nat.le_refl _, by unfold maxLen; omega, by simp [rowV, Kd.int, Kd.scalar], by simp [rowV, Kd.int, Kd.scalar, List.take_of_length_le]⟩⟩, by simp [Kd.int, Kd.scalar], fun j p hp => ?_⟩
  have hj : j < l.length := (List.getElem?_eq_some_iff.1 hp).1
  have hv := (List.getElem?_eq_some_iff.1 hp).2
  show ((l.map (Value.int .u8)).drop (j * 1)).take 1 = [Value.int .u8 p]
  rw [Nat.mul_one, List.drop_eq_getElem_cons (by simpa using hj)]
  simp [hv]
/-- The pad as the document lays it. -/
def RefAt (w : World) (P : List Int) (i : Nat) (X : World) : Prop := Below w.heap.size w X ∧ X.heap[w.heap.size]? = some (.cells (rowV (P.take i ++ List.replicate (64 - i) 0)) 5 (0, 0))
theorem refrow_len {P : List Int} (h : P.length = 64) (i : Nat) (hi : i ≤ 64) : (P.take i ++ List.replicate (64 - i) (0 : Int)).length = 64 := by
  rw [List.length_append, List.length_take, List.length_replicate]; omega
theorem refrow_set {P : List Int} (h : P.length = 64) (i : Nat) (hi : i < 64) (c x : Int) (hx : P.getD i 0 = x) : ((P.take i ++ List.replicate (64 - i) (0 : Int)).set i c).set i x = P.take (i + 1) ++ List.replicate (64 - (i + 1)) 0 := by
  have hl : (P.take i).length = i := by rw [List.length_take]; omega
  rw [List.set_set, List.set_append_right _ _ (by omega), hl, Nat.sub_self, show 64 - i = (64 - (i + 1)) + 1 by omega, List.replicate_succ, List.set_cons_zero]
  have hp : P[i]'(by omega) = x := by rw [← hx, List.getD_eq_getElem?_getD, List.getElem?_eq_getElem (by omega)]; rfl
  rw [List.take_succ_eq_append_getElem (by omega), List.append_assoc, hp]
  rfl
theorem refrow_set1 {P : List Int} (h : P.length = 64) (i : Nat) (hi : i < 64) (x : Int) (hx : P.getD i 0 = x) : (P.take i ++ List.replicate (64 - i) (0 : Int)).set i x = P.take (i + 1) ++ List.replicate (64 - (i + 1)) 0 := by
  have := refrow_set h i hi x x hx
  rwa [List.set_set] at this
set_option maxRecDepth 100000 in
set_option maxHeartbeats 8000000 in
theorem rwith_any (A : Option Addr) (c0 : Nat) (l : List Int) (cc : Nat) (hcc : cc < 256) (W : World) (hr : Kd.C (Kd.int .u8) W A l.length l) (hc : l.length ≤ c0) (hb : ∀ x ∈ l, 0 ≤ x ∧ x ≤ 255) (hl : l.length ≤ 1000000) :
    Calls Tryd.prog 55 #[.slice A l.length c0, .int .u8 (cc : Int)] W fun e w' => ∃ v, e = .returned v ∧ Kd.R (Kd.int .u8) 5 w' W.heap.size (fun _ => True) v (padK l cc) ∧ Below W.heap.size W w' := by
  have hm : ∀ W : World, (Instr.makeSlice 22 (.int .i64 64) (.int .i64 64)).run Tryd.prog W = .ok (.slice (some ⟨W.heap.size, 0, none⟩) 64 64) (W.alloc (.cells (madeCells #[.int .u8 0] 64) 5)) := print_make (P := Tryd.prog) 22 5 .u8 1 Tryd.underlying22 info5b (by decide) 64 (by decide)
  have hpk : padK l cc = (List.range 64).map fun i => ((((keyL l).getD i 0).toNat ^^^ cc : Nat) : Int) := rfl
  have hkb := keyL_bytes hb
  have hkl := keyL_le l
  have HR := Aside0.mk hr
  by_cases h64 : l.length ≤ 64
  · have h3 : ¬ (64 : Int) < (l.length : Int) := by omega
    have hke : keyL l = l := if_pos h64
    rw [hke] at hpk hkb hkl
    obtain ⟨PD, hPD⟩ : ∃ P, P = padK l cc := ⟨_, rfl⟩
    rw [← hPD] at hpk ⊢
    have HPK := Aside0.mk hpk
    have HKB := Aside0.mk hkb
    obtain ⟨kl, hkle⟩ : ∃ kl, kl = l := ⟨_, rfl⟩
    have HB0 := Aside0.mk (Below.refl W.heap.size W)
    have HCK := Aside0.mk hr
    obtain ⟨n, hn⟩ : ∃ n, n = l.length := ⟨_, rfl⟩
    rw [← hn] at HCK hkl h3 ⊢
    rw [← hkle] at HPK HKB HCK
    have hnl : n = kl.length := by rw [hn, hkle]
    have HNL := Aside0.mk hnl
    clear hr hb hc hl h64 hpk hkb hke hPD hkle hn hnl
    go_enter Tryd.func55, Tryd.ntmps55
    obtain ⟨B, hBA⟩ : ∃ B, B = A := ⟨_, rfl⟩
    rw [← hBA] at HCK ⊢
    clear hBA
    have hpl : PD.length = 64 := by rw [HPK.out]; simp
    have hw0 : RefAt W PD 0 (W.alloc (.cells (madeCells #[.int .u8 0] 64) 5)) := ⟨(Below.refl _ _).alloc (Nat.le_refl _) _, by
      rw [List.take_zero, List.nil_append, Nat.sub_zero]
      have e : rowV (List.replicate 64 (0 : Int)) = madeCells #[.int .u8 0] 64 := (made_eq 64).symm
      rw [e]; exact heap_alloc_new W _⟩
    have HW0 := Aside0.mk hw0
    have HPL := Aside0.mk hpl
    clear hw0 hpl
    go_wp2
    go_loopw [7] (fun v7 wr => ∃ i : Nat, i ≤ 64 ∧ v7 = .int .i64 (i : Int) ∧ Aside0 (RefAt W PD i wr)) (fun v7 _ => 64 - (intOf v7).toNat)
    case atStart => exact ⟨0, Nat.zero_le _, rfl, HW0⟩
    case round =>
      obtain ⟨i, hi, rfl, HP⟩ := hrel
      by_cases h64 : i < 64
      · obtain ⟨hbw, hg⟩ := HP.out
        have hlen := refrow_len HPL.out i hi
        have hpi : PD.getD i 0 = (((kl.getD i 0).toNat ^^^ cc : Nat) : Int) := by
          rw [HPK.out, List.getD_eq_getElem?_getD, List.getElem?_map, List.getElem?_range h64]; rfl
        have hci : wr.cell? ⟨W.heap.size, i, none⟩ = some (.int .u8 0) := by
          rw [cell_of_row wr W.heap.size i _ _ _ hg]
          have hlk : (PD.take i).length = i := by rw [List.length_take, HPL.out]; omega
          simp only [rowV, List.getElem?_toArray, List.getElem?_map]
          rw [List.getElem?_append_right (by omega), hlk, Nat.sub_self, List.getElem?_replicate, if_pos (by omega)]
          rfl
        have hfi := blk_frozen hg i
        have hset1 := blk_set hg i (Value.int .u8 (cc : Int))
        rw [rowV_set] at hset1
        have hfi1 := blk_frozen hset1 i
        have hbw1 : Below W.heap.size W (wr.setCell ⟨W.heap.size, i, none⟩ (.int .u8 (cc : Int))) := hbw.setCell (Nat.le_refl _) _
        have hci1 : (wr.setCell ⟨W.heap.size, i, none⟩ (.int .u8 (cc : Int))).cell? ⟨W.heap.size, i, none⟩ = some (.int .u8 (cc : Int)) := by
          rw [cell_of_row _ W.heap.size i _ _ _ hset1]
          simp only [rowV, List.getElem?_toArray, List.getElem?_map]
          rw [List.getElem?_set, if_pos rfl, if_pos (by omega)]
          rfl
        have kk0 : (i : Int) < 64 := by omega
        by_cases hin : i < n
        · obtain ⟨ad, rfl, -⟩ := Kd.at_int HCK.out (i : Int) (by omega) (by omega)
          obtain ⟨_, ea, hx⟩ := Kd.at_int (Kd.C_below HCK.out hbw1) (i : Int) (by omega) (by omega)
          cases ea
          rw [Int.toNat_natCast] at hx
          have hxb := HKB.out (rd kl (i : Int)) (rd_mem (by rw [← HNL.out]; exact hin))
          obtain ⟨x, hxe⟩ : ∃ x : Nat, rd kl (i : Int) = (x : Int) := ⟨(rd kl (i : Int)).toNat, by omega⟩
          rw [hxe] at hx hxb
          have hx256 : x < 256 := by omega
          have hxr := xor8 x cc hx256 hcc
          have hxk : kl.getD i 0 = (x : Int) := by have := hxe; simpa [rd] using this
          rw [hxk, Int.toNat_natCast] at hpi
          have hfin : RefAt W PD (i + 1) ((wr.setCell ⟨W.heap.size, i, none⟩ (.int .u8 (cc : Int))).setCell ⟨W.heap.size, i, none⟩ (.int .u8 ((x ^^^ cc : Nat) : Int))) := by
            refine ⟨hbw1.setCell (Nat.le_refl _) _, ?_⟩
            have h2 := blk_set hset1 i (Value.int .u8 ((x ^^^ cc : Nat) : Int))
            rw [rowV_set, refrow_set HPL.out i h64 _ _ hpi] at h2
            exact h2
          have HFIN := Aside0.mk hfin
          have kk1 : (i : Int) < (n : Int) := by omega
          clear hbw hg hlen hpi hset1 hbw1 hxe hxk hfin
          go_wp2
          go_roundw
          case rel => exact ⟨i + 1, by omega, by go_num, HFIN⟩
          case measure => simp [intOf]; omega
        · have hk0 : kl.getD i 0 = 0 := by rw [List.getD_eq_getElem?_getD, List.getElem?_eq_none (by rw [← HNL.out]; omega)]; rfl
          rw [hk0] at hpi
          have hpi2 : PD.getD i 0 = (cc : Int) := by rw [hpi]; simp
          have hfin : RefAt W PD (i + 1) (wr.setCell ⟨W.heap.size, i, none⟩ (.int .u8 (cc : Int))) := by
            refine ⟨hbw1, ?_⟩
            rw [refrow_set1 HPL.out i h64 _ hpi2] at hset1
            exact hset1
          have HFIN := Aside0.mk hfin
          have kk1 : ¬ (i : Int) < (n : Int) := by omega
          clear hbw hg hlen hpi hpi2 hk0 hset1 hbw1 hfin hci1 hfi1
          go_wp2
          go_roundw
          case rel => exact ⟨i + 1, by omega, by go_num, HFIN⟩
          case measure => simp [intOf]; omega
      · obtain rfl : i = 64 := by omega
        go_wp2
        go_ret
        obtain ⟨hbw, hg⟩ := HP.out
        have e : PD.take 64 ++ List.replicate (64 - 64) (0 : Int) = PD := by rw [Nat.sub_self, List.take_of_length_le (by rw [HPL.out]; exact Nat.le_refl _)]; simp
        rw [e] at hg
        exact ⟨_, rfl, R_of_row hg HB0.out.size HPL.out (by decide), below_step HB0.out hbw⟩
  · have h3 : (64 : Int) < (l.length : Int) := by omega
    have hke : keyL l = shaL l := if_neg h64
    rw [hke] at hpk hkb hkl
    obtain ⟨PD, hPD⟩ : ∃ P, P = padK l cc := ⟨_, rfl⟩
    rw [← hPD] at hpk ⊢
    have HPK := Aside0.mk hpk
    have HKB := Aside0.mk hkb
    have hsum := rsum_any A c0 l W hr hc hl hb
    have hkl2 := shaL_len l
    obtain ⟨kl, hkle⟩ : ∃ kl, kl = shaL l := ⟨_, rfl⟩
    rw [← hkle] at hsum
    rw [← hkle] at HPK HKB hkl2 hkl
    have HSUM := Aside0.mk hsum
    clear hr hb hc hl h64 hpk hkb hke hPD hkle hsum
    go_enter Tryd.func55, Tryd.ntmps55
    go_wp2_with (go_at_call 23; ((with_reducible refine (HSUM.out).mono ?_)))
    rintro e W1 ⟨v1, rfl, hR1, hb1⟩
    obtain ⟨B, d, rfl, hl1, hC1⟩ := Kd.R_reads hR1
    rw [hkl2] at hC1 hl1 ⊢
    have HB0 := Aside0.mk hb1
    have HNL := Aside0.mk hkl2.symm
    obtain ⟨n, hn⟩ : ∃ n, n = 32 := ⟨_, rfl⟩
    rw [← hn] at HNL hC1 ⊢
    have HCK := Aside0.mk hC1
    have hkl : n ≤ 64 := by omega
    clear hR1 hb1 hl1 hC1 hn hkl2 HSUM
    have hpl : PD.length = 64 := by rw [HPK.out]; simp
    have hw0 : RefAt W1 PD 0 (W1.alloc (.cells (madeCells #[.int .u8 0] 64) 5)) := ⟨(Below.refl _ _).alloc (Nat.le_refl _) _, by
      rw [List.take_zero, List.nil_append, Nat.sub_zero]
      have e : rowV (List.replicate 64 (0 : Int)) = madeCells #[.int .u8 0] 64 := (made_eq 64).symm
      rw [e]; exact heap_alloc_new W1 _⟩
    have HW0 := Aside0.mk hw0
    have HPL := Aside0.mk hpl
    clear hw0 hpl
    go_wp2
    go_loopw [7] (fun v7 wr => ∃ i : Nat, i ≤ 64 ∧ v7 = .int .i64 (i : Int) ∧ Aside0 (RefAt W1 PD i wr)) (fun v7 _ => 64 - (intOf v7).toNat)
    case atStart => exact ⟨0, Nat.zero_le _, rfl, HW0⟩
    case round =>
      obtain ⟨i, hi, rfl, HP⟩ := hrel
      by_cases h64 : i < 64
      · obtain ⟨hbw, hg⟩ := HP.out
        have hlen := refrow_len HPL.out i hi
        have hpi : PD.getD i 0 = (((kl.getD i 0).toNat ^^^ cc : Nat) : Int) := by
          rw [HPK.out, List.getD_eq_getElem?_getD, List.getElem?_map, List.getElem?_range h64]; rfl
        have hci : wr.cell? ⟨W1.heap.size, i, none⟩ = some (.int .u8 0) := by
          rw [cell_of_row wr W1.heap.size i _ _ _ hg]
          have hlk : (PD.take i).length = i := by rw [List.length_take, HPL.out]; omega
          simp only [rowV, List.getElem?_toArray, List.getElem?_map]
          rw [List.getElem?_append_right (by omega), hlk, Nat.sub_self, List.getElem?_replicate, if_pos (by omega)]
          rfl
        have hfi := blk_frozen hg i
        have hset1 := blk_set hg i (Value.int .u8 (cc : Int))
        rw [rowV_set] at hset1
        have hfi1 := blk_frozen hset1 i
        have hbw1 : Below W1.heap.size W1 (wr.setCell ⟨W1.heap.size, i, none⟩ (.int .u8 (cc : Int))) := hbw.setCell (Nat.le_refl _) _
        have hci1 : (wr.setCell ⟨W1.heap.size, i, none⟩ (.int .u8 (cc : Int))).cell? ⟨W1.heap.size, i, none⟩ = some (.int .u8 (cc : Int)) := by
          rw [cell_of_row _ W1.heap.size i _ _ _ hset1]
          simp only [rowV, List.getElem?_toArray, List.getElem?_map]
          rw [List.getElem?_set, if_pos rfl, if_pos (by omega)]
          rfl
        have kk0 : (i : Int) < 64 := by omega
        by_cases hin : i < n
        · obtain ⟨ad, rfl, -⟩ := Kd.at_int HCK.out (i : Int) (by omega) (by omega)
          obtain ⟨_, ea, hx⟩ := Kd.at_int (Kd.C_below HCK.out hbw1) (i : Int) (by omega) (by omega)
          cases ea
          rw [Int.toNat_natCast] at hx
          have hxb := HKB.out (rd kl (i : Int)) (rd_mem (by rw [← HNL.out]; exact hin))
          obtain ⟨x, hxe⟩ : ∃ x : Nat, rd kl (i : Int) = (x : Int) := ⟨(rd kl (i : Int)).toNat, by omega⟩
          rw [hxe] at hx hxb
          have hx256 : x < 256 := by omega
          have hxr := xor8 x cc hx256 hcc
          have hxk : kl.getD i 0 = (x : Int) := by have := hxe; simpa [rd] using this
          rw [hxk, Int.toNat_natCast] at hpi
          have hfin : RefAt W1 PD (i + 1) ((wr.setCell ⟨W1.heap.size, i, none⟩ (.int .u8 (cc : Int))).setCell ⟨W1.heap.size, i, none⟩ (.int .u8 ((x ^^^ cc : Nat) : Int))) := by
            refine ⟨hbw1.setCell (Nat.le_refl _) _, ?_⟩
            have h2 := blk_set hset1 i (Value.int .u8 ((x ^^^ cc : Nat) : Int))
            rw [rowV_set, refrow_set HPL.out i h64 _ _ hpi] at h2
            exact h2
          have HFIN := Aside0.mk hfin
          have kk1 : (i : Int) < (n : Int) := by omega
          clear hbw hg hlen hpi hset1 hbw1 hxe hxk hfin
          go_wp2
          go_roundw
          case rel => exact ⟨i + 1, by omega, by go_num, HFIN⟩
          case measure => simp [intOf]; omega
        · have hk0 : kl.getD i 0 = 0 := by rw [List.getD_eq_getElem?_getD, List.getElem?_eq_none (by rw [← HNL.out]; omega)]; rfl
          rw [hk0] at hpi
          have hpi2 : PD.getD i 0 = (cc : Int) := by rw [hpi]; simp
          have hfin : RefAt W1 PD (i + 1) (wr.setCell ⟨W1.heap.size, i, none⟩ (.int .u8 (cc : Int))) := by
            refine ⟨hbw1, ?_⟩
            rw [refrow_set1 HPL.out i h64 _ hpi2] at hset1
            exact hset1
          have HFIN := Aside0.mk hfin
          have kk1 : ¬ (i : Int) < (n : Int) := by omega
          clear hbw hg hlen hpi hpi2 hk0 hset1 hbw1 hfin hci1 hfi1
          go_wp2
          go_roundw
          case rel => exact ⟨i + 1, by omega, by go_num, HFIN⟩
          case measure => simp [intOf]; omega
      · obtain rfl : i = 64 := by omega
        go_wp2
        go_ret
        obtain ⟨hbw, hg⟩ := HP.out
        have e : PD.take 64 ++ List.replicate (64 - 64) (0 : Int) = PD := by rw [Nat.sub_self, List.take_of_length_le (by rw [HPL.out]; exact Nat.le_refl _)]; simp
        rw [e] at hg
        exact ⟨_, rfl, R_of_row hg HB0.out.size HPL.out (by decide), below_step HB0.out hbw⟩
set_option maxRecDepth 100000 in
set_option maxHeartbeats 8000000 in
theorem rcode_any (A0 : Option Addr) (c0 : Nat) (l0 : List Int) (A1 : Option Addr) (c1 : Nat) (l1 : List Int) (W : World) (hr0 : Kd.C (Kd.int .u8) W A0 l0.length l0) (hc0 : l0.length ≤ c0) (hb0 : ∀ x ∈ l0, 0 ≤ x ∧ x ≤ 255) (hl0 : l0.length ≤ 1000000)
    (hr1 : Kd.C (Kd.int .u8) W A1 l1.length l1) (hc1 : l1.length ≤ c1) (hb1 : ∀ x ∈ l1, 0 ≤ x ∧ x ≤ 255) (hl1 : l1.length ≤ 900000) :
    Calls Tryd.prog 35 #[.slice A0 l0.length c0, .slice A1 l1.length c1] W fun e w' => ∃ v, e = .returned v ∧ Kd.R (Kd.int .u8) 5 w' W.heap.size (fun _ => True) v (codeL l0 l1) ∧ Below W.heap.size W w' := by
  have h92 : ∀ X, Below W.heap.size W X → Calls Tryd.prog 55 #[.slice A0 l0.length c0, .int .u8 92] X fun e w' => ∃ v, e = .returned v ∧ Kd.R (Kd.int .u8) 5 w' X.heap.size (fun _ => True) v (padK l0 92) ∧ Below X.heap.size X w' := fun X hX => rwith_any A0 c0 l0 92 (by decide) X (Kd.C_below hr0 hX) hc0 hb0 hl0
  have h54 : Calls Tryd.prog 55 #[.slice A0 l0.length c0, .int .u8 54] W fun e w' => ∃ v, e = .returned v ∧ Kd.R (Kd.int .u8) 5 w' W.heap.size (fun _ => True) v (padK l0 54) ∧ Below W.heap.size W w' := rwith_any A0 c0 l0 54 (by decide) W hr0 hc0 hb0 hl0
  have p92 := padK_len l0 92
  have p54 := padK_len l0 54
  have b92 := padK_bytes hb0 (c := 92) (by decide)
  have b54 := padK_bytes hb0 (c := 54) (by decide)
  obtain ⟨P, hP⟩ : ∃ P, P = padK l0 92 := ⟨_, rfl⟩
  obtain ⟨Q, hQ⟩ : ∃ Q, Q = padK l0 54 := ⟨_, rfl⟩
  have hcode : codeL l0 l1 = shaL (P ++ shaL (Q ++ l1)) := by rw [hP, hQ]; rfl
  rw [← hP] at p92 b92
  simp only [← hP] at h92
  rw [← hQ] at h54 p54 b54
  have H92 := Aside0.mk h92
  have H54 := Aside0.mk h54
  have P92 := Aside0.mk p92
  have P54 := Aside0.mk p54
  have B92 := Aside0.mk b92
  have B54 := Aside0.mk b54
  have HR1 := Aside0.mk hr1
  have HB1 := Aside0.mk hb1
  have HCODE := Aside0.mk hcode
  clear h92 h54 p92 p54 b92 b54 hP hQ hcode hr0 hb0 hr1 hb1
  go_enter Tryd.func35, Tryd.ntmps35
  go_wp2_with (go_at_call 55; ((with_reducible refine (H54.out).mono ?_)))
  rintro e w1 ⟨v1, rfl, hR1, hb1⟩
  obtain ⟨A5, c5, rfl⟩ := Kd.R_slice hR1
  have HRA := Aside0.mk hR1
  have HBA := Aside0.mk hb1
  clear hR1 hb1
  go_wp2_with (at_builtin; refine Kd.R_append_rows (Kd.int .u8) (w0 := W) W.heap.size rfl (.tmp 10) (.tmp 11) 22 5 (.int .u8 0) 1 rfl Tryd.underlying22 info5b rfl (by decide) (by omega) (.slice A5 Q.length c5) Q l1 _ _ _ (fun _ => True) (fun _ => False) rfl rfl HRA.out (Kd.C_below HR1.out HBA.out) (fun _ _ h => h) (fun _ h => h.elim) (fun _ _ => trivial) HBA.out HBA.out.size (by have := P54.out; omega) ?_)
  intro v2 w2 hR2 hb2 _ _
  obtain ⟨A6, c6, rfl, hl6, hC6⟩ := Kd.R_reads hR2
  have hq : (Q ++ l1).length ≤ 1000000 := by rw [List.length_append, P54.out]; omega
  have HB2 := Aside0.mk hb2
  have HC6 := Aside0.mk hC6
  have HQ := Aside0.mk hq
  clear hR2 hb2 hC6 hq HRA HBA
  go_wp2_with (go_at_call 55; ((with_reducible refine (H92.out _ HB2.out).mono ?_)))
  rintro e w3 ⟨v3, rfl, hR3, hb3⟩
  obtain ⟨A7, c7, rfl⟩ := Kd.R_slice hR3
  have hC63 := Kd.C_below HC6.out hb3
  have hsum := rsum_any A6 c6 (Q ++ l1) w3 hC63 hl6 HQ.out (bytes_app B54.out HB1.out)
  simp only [List.length_append] at hsum
  have HR3 := Aside0.mk hR3
  have HB3 := Aside0.mk (below_step HB2.out hb3)
  have HSUM := Aside0.mk hsum
  have HSZ := Aside0.mk HB2.out.size
  clear hR3 hb3 hC63 hsum HC6
  go_wp2_with (go_at_call 23; ((with_reducible refine (HSUM.out).mono ?_)))
  rintro e w4 ⟨v4, rfl, hR4, hb4⟩
  obtain ⟨A8, c8, rfl, hl8, hC8⟩ := Kd.R_reads hR4
  have e32 := shaL_len (Q ++ l1)
  rw [e32] at hC8 hl8 ⊢
  have HR34 := Aside0.mk (Kd.R_lower (Kd.R_below HR3.out hb4) HSZ.out)
  have HB4 := Aside0.mk (below_step HB3.out hb4)
  have HC8 := Aside0.mk hC8
  have E32 := Aside0.mk e32
  clear hR4 hb4 hC8 e32 HR3 HSUM
  go_wp2_with (at_builtin; refine Kd.R_append_rows (Kd.int .u8) (w0 := W) W.heap.size rfl (.tmp 17) (.tmp 18) 22 5 (.int .u8 0) 1 rfl Tryd.underlying22 info5b rfl (by decide) (by omega) (.slice A7 P.length c7) P (shaL (Q ++ l1)) _ _ _ (fun _ => True) (fun _ => False) rfl rfl HR34.out HC8.out (fun _ _ h => h) (fun _ h => h.elim) (fun _ _ => trivial) HB4.out HB4.out.size (by have := P92.out; have := E32.out; omega) ?_)
  intro v5 w5 hR5 hb5 _ _
  obtain ⟨A9, c9, rfl, hl9, hC9⟩ := Kd.R_reads hR5
  have hsum2 := rsum_any A9 c9 (P ++ shaL (Q ++ l1)) w5 hC9 hl9 (by rw [List.length_append, P92.out, E32.out]; decide) (bytes_app B92.out (shaL_bytes _))
  simp only [List.length_append] at hsum2
  have HSUM2 := Aside0.mk hsum2
  have HB5 := Aside0.mk hb5
  clear hR5 hb5 hC9 hsum2
  go_wp2_with (go_at_call 23; ((with_reducible refine (HSUM2.out).mono ?_)))
  rintro e w6 ⟨v6, rfl, hR6, hb6⟩
  have HV := Aside0.mk (show Kd.R (Kd.int .u8) 5 w6 W.heap.size (fun _ => True) v6 (codeL l0 l1) by rw [HCODE.out]; exact Kd.R_lower hR6 HB5.out.size)
  have HB6 := Aside0.mk (below_step HB5.out hb6)
  clear hR6 hb6
  go_wp2
  go_ret
  exact ⟨_, rfl, HV.out, HB6.out⟩
end Go.Proofs.YtfmdpkilgnccfaaDoor.E

/- The document's Round, Hash and Right of chapter 4 by hand. -/
namespace Go.Proofs.YtfmdpkilgnccfaaDoor.E
open Go.RowKit Go.Proofs.YtfmdpkilgnccfaaDoorW.PrintWords Go.Proofs.YtfmdpkilgnccfaaDoorW.PrintLast Go.Proofs.YtfmdpkilgnccfaaDoorW.PrintMore Go.Proofs.YtfmdpkilgnccfaaDoor.Pr
set_option linter.unusedVariables false
set_option linter.unusedSimpArgs false
def HL (p s : List Int) (n : Int) : List Int := if 1 ≤ n ∧ n ≤ 1000 then hashL p s n.toNat else []
theorem HL_bytes (p s : List Int) (n : Int) : ∀ x ∈ HL p s n, 0 ≤ x ∧ x ≤ 255 := by
  unfold HL
  split
  · exact hashL_bytes _ _ _
  · intro x hx; cases hx
theorem HL_len (p s : List Int) (n : Int) : (HL p s n).length ≤ 32 := by
  unfold HL
  split
  · rw [hashL_len]; exact Nat.le_refl _
  · simp
theorem RowB.of_sum {P : List Int} {v : Value} {w : World} (h : SumVal P v w) (hp : P.length = 32) : RowB P v w := by
  obtain ⟨B, d, rfl, hC, hd⟩ := h
  exact ⟨B, d, by rw [hp], by rw [hp]; exact hC, by rw [hp]; exact hd⟩
theorem RowB.nil (w : World) : RowB [] (.slice none 0 0) w := ⟨none, 0, rfl, Kd.C_empty _ _, Nat.le_refl _⟩
theorem rround_any (A0 : Option Addr) (c0 : Nat) (l0 : List Int) (A1 : Option Addr) (c1 : Nat) (l1 : List Int) (W : World) (hr0 : Kd.C (Kd.int .u8) W A0 l0.length l0) (hc0 : l0.length ≤ c0) (hb0 : ∀ x ∈ l0, 0 ≤ x ∧ x ≤ 255) (hl0 : l0.length ≤ 1000000)
    (hr1 : Kd.C (Kd.int .u8) W A1 l1.length l1) (hc1 : l1.length ≤ c1) (hb1 : ∀ x ∈ l1, 0 ≤ x ∧ x ≤ 255) (hl1 : l1.length ≤ 900000) :
    Calls Tryd.prog 42 #[.slice A0 l0.length c0, .slice A1 l1.length c1] W fun e w' => ∃ v, e = .returned v ∧ Kd.R (Kd.int .u8) 5 w' W.heap.size (fun _ => True) v (codeL l0 l1) ∧ Below W.heap.size W w' := by
  have H := Aside0.mk (rcode_any A0 c0 l0 A1 c1 l1 W hr0 hc0 hb0 hl0 hr1 hc1 hb1 hl1)
  clear hr0 hb0 hr1 hb1
  go_enter Tryd.func42, Tryd.ntmps42
  go_wp2_with (go_at_call 35; ((with_reducible refine (H.out).mono ?_)))
  rintro e w1 ⟨v1, rfl, hV, hb⟩
  have HV := Aside0.mk hV
  have HB := Aside0.mk hb
  clear hV hb
  go_wp2
  go_ret
  exact ⟨_, rfl, HV.out, HB.out⟩
theorem rhash_out (A0 : Option Addr) (n0 c0 : Nat) (A1 : Option Addr) (n1 c1 : Nat) (n : Int) (hn : n < 1 ∨ 1000 < n) (W : World) : Calls Tryd.prog 41 #[.slice A0 n0 c0, .slice A1 n1 c1, .int .i64 n] W fun e w' => e = .returned (.slice none 0 0) ∧ Below W.heap.size W w' := by
  rcases hn with hn | hn
  · have h1 : decide (n < 1) = true := decide_eq_true hn
    go_enter Tryd.func41, Tryd.ntmps41
    go_wp2
    go_ret
    exact ⟨rfl, Below.refl _ _⟩
  · have h0 : ¬ n < 1 := by omega
    have h1 : decide (n < 1) = false := decide_eq_false h0
    go_enter Tryd.func41, Tryd.ntmps41
    go_wp2
    go_ret
    exact ⟨rfl, Below.refl _ _⟩
set_option maxRecDepth 100000 in
set_option maxHeartbeats 8000000 in
theorem rhash_any (A0 : Option Addr) (c0 : Nat) (l0 : List Int) (A1 : Option Addr) (c1 : Nat) (l1 : List Int) (n : Nat) (hn1 : 1 ≤ n) (hn : n ≤ 1000) (W : World) (hr0 : Kd.C (Kd.int .u8) W A0 l0.length l0) (hc0 : l0.length ≤ c0) (hb0 : ∀ x ∈ l0, 0 ≤ x ∧ x ≤ 255) (hl0 : l0.length ≤ 1000000)
    (hr1 : Kd.C (Kd.int .u8) W A1 l1.length l1) (hc1 : l1.length ≤ c1) (hb1 : ∀ x ∈ l1, 0 ≤ x ∧ x ≤ 255) (hl1 : l1.length ≤ 800000) :
    Calls Tryd.prog 41 #[.slice A0 l0.length c0, .slice A1 l1.length c1, .int .i64 (n : Int)] W fun e w' => ∃ v, e = .returned v ∧ SumVal (hashL l0 l1 n) v w' ∧ Below W.heap.size W w' := by
  have hm : ∀ W : World, (Instr.makeSlice 22 (.int .i64 32) (.int .i64 32)).run Tryd.prog W = .ok (.slice (some ⟨W.heap.size, 0, none⟩) 32 32) (W.alloc (.cells (madeCells #[.int .u8 0] 32) 5)) := print_make (P := Tryd.prog) 22 5 .u8 1 Tryd.underlying22 info5b (by decide) 32 (by decide)
  have h0 : ¬ (n : Int) < 1 := by omega
  have h1 : decide ((n : Int) < 1) = false := decide_eq_false h0
  have h2 : ¬ (1000 : Int) < (n : Int) := by omega
  have h3 : decide ((1000 : Int) < (n : Int)) = false := decide_eq_false h2
  have HRR0 := Aside0.mk hr0
  have HRR1 := Aside0.mk hr1
  have HB0 := Aside0.mk hb0
  have HB1 := Aside0.mk hb1
  clear hr0 hr1 hb0 hb1
  go_enter Tryd.func41, Tryd.ntmps41
  go_wp2_with (at_builtin; refine Kd.R_append_rows (Kd.int .u8) (w0 := W) W.heap.size rfl (.tmp 17) (.tmp 18) 22 5 (.int .u8 0) 1 rfl Tryd.underlying22 info5b rfl (by decide) (by omega) (.slice none 0 0) [] l1 _ _ _ (fun _ => True) (fun _ => False) rfl rfl (Kd.R_nil _ _ _ _ _) HRR1.out (fun _ _ h => h) (fun _ h => h.elim) (fun _ _ => trivial) (Below.refl W.heap.size W) (Below.refl W.heap.size W).size (by simp; omega) ?_)
  intro v1 w1 hR1 hb1 _ _
  have hR1 : Kd.R (Kd.int .u8) 5 w1 W.heap.size (fun _ => True) v1 l1 := hR1
  obtain ⟨B1, d1, rfl⟩ := Kd.R_slice hR1
  have HRA := Aside0.mk (Kd.R_below hR1 ((Below.refl _ w1).alloc (Nat.le_refl _) (.cells #[.int .u8 0, .int .u8 0, .int .u8 0, .int .u8 1] 5)))
  have HBA := Aside0.mk (hb1.alloc hb1.size (.cells #[.int .u8 0, .int .u8 0, .int .u8 0, .int .u8 1] 5))
  have HLIT := Aside0.mk (lit_C w1 [0, 0, 0, 1] (0, 0) (by simp))
  clear hR1 hb1
  go_wp2_with (at_builtin; refine Kd.R_append_rows (Kd.int .u8) (w0 := W) W.heap.size rfl (.tmp 20) (.tmp 21) 22 5 (.int .u8 0) 1 rfl Tryd.underlying22 info5b rfl (by decide) (by omega) (.slice B1 l1.length d1) l1 [0, 0, 0, 1] _ _ _ (fun _ => True) (fun _ => False) rfl rfl HRA.out HLIT.out (fun _ _ h => h) (fun _ h => h.elim) (fun _ _ => trivial) HBA.out HBA.out.size (by omega) ?_)
  intro v2 w2 hR2 hb2 _ _
  obtain ⟨F1, hF1⟩ : ∃ F1, F1 = uL l0 l1 0 := ⟨_, rfl⟩
  have hR2 : Kd.R (Kd.int .u8) 5 w2 W.heap.size (fun _ => True) v2 F1 := by rw [hF1]; exact hR2
  have hR3 : Kd.R (Kd.int .u8) 5 (w2.alloc (.cells (madeCells #[.int .u8 0] 32) 5)) W.heap.size (fun k => k ≠ w2.heap.size) v2 F1 := Kd.R_below (Kd.R_mono (Kd.R_bound hR2) (fun k hk => by have := hk.2.2.1; omega)) ((Below.refl _ _).alloc (Nat.le_refl _) _)
  rw [hF1] at hR3
  have HR3 := Aside0.mk hR3
  have HB3 := Aside0.mk (hb2.alloc hb2.size (.cells (madeCells #[.int .u8 0] 32) 5))
  have hg0 : (w2.alloc (.cells (madeCells #[.int .u8 0] 32) 5)).heap[w2.heap.size]? = some (.cells (rowV (outL (seqU l0 l1 0))) 5 (0, 0)) := by
    have e : rowV (outL (seqU l0 l1 0)) = madeCells #[.int .u8 0] 32 := (made_eq 32).symm
    rw [e]; exact heap_alloc_new w2 _
  have HG0 := Aside0.mk hg0
  have HSZ := Aside0.mk hb2.size
  clear hR2 hb2 hR3 hg0 hF1 HRA HBA HLIT
  go_wp2
  go_loopw [7, 9] (fun v7 v9 wr => ∃ i : Nat, i ≤ n ∧ v9 = .int .i64 (i : Int) ∧ Aside0 (Kd.R (Kd.int .u8) 5 wr W.heap.size (fun k => k ≠ w2.heap.size) v7 (uL l0 l1 i) ∧ wr.heap[w2.heap.size]? = some (.cells (rowV (outL (seqU l0 l1 i))) 5 (0, 0)) ∧ Below W.heap.size W wr)) (fun _ v9 _ => n - (intOf v9).toNat)
  case atStart => exact ⟨0, Nat.zero_le _, rfl, ⟨HR3.out, HG0.out, HB3.out⟩⟩
  case round =>
    obtain ⟨i, hi, rfl, ⟨⟨hR, hg, hbw⟩⟩⟩ := hrel
    by_cases hin : i < n
    · obtain ⟨A5, c5, rfl, hl5, hC5⟩ := Kd.R_reads hR
      have hul := uL_len (pass := l0) (salt := l1) (by omega) i
      have hrd := rround_any A0 c0 l0 A5 c5 (uL l0 l1 i) wr (Kd.C_below HRR0.out hbw) hc0 HB0.out (by omega) hC5 hl5 (uL_bytes HB1.out i) (by omega)
      have hsucc := seqU_succ l0 l1 i
      have hu1 : uL l0 l1 (i + 1) = codeL l0 (uL l0 l1 i) := rfl
      rw [hu1] at hsucc
      obtain ⟨u, hu⟩ : ∃ u, u = uL l0 l1 i := ⟨_, rfl⟩
      rw [← hu] at hrd hsucc hu1 hl5 hul ⊢
      have hob : ∀ x ∈ outL (seqU l0 l1 i), 0 ≤ x ∧ x ≤ 255 := hashL_bytes l0 l1 i
      have hol : (outL (seqU l0 l1 i)).length = 32 := hashL_len l0 l1 i
      obtain ⟨o, ho⟩ : ∃ o, o = outL (seqU l0 l1 i) := ⟨_, rfl⟩
      have hout : outL (seqU l0 l1 (i + 1)) = xorRow o (codeL l0 u) := by rw [hsucc, outL, List.foldl_append, ho]; rfl
      rw [← ho] at hg hob hol
      have HRD := Aside0.mk hrd
      have HG := Aside0.mk hg
      have HBW := Aside0.mk hbw
      have HU1 := Aside0.mk hu1
      have HOUT := Aside0.mk hout
      have HOB := Aside0.mk hob
      have HOL := Aside0.mk hol
      have kk0 : (i : Int) < (n : Int) := by omega
      clear hR hg hbw hC5 hrd hsucc hu hu1 ho hout hob hol
      go_wp2_with (go_at_call 42; ((with_reducible refine (HRD.out).mono ?_)))
      rintro e w5 ⟨v5, rfl, hR5, hb5⟩
      have hglt : w2.heap.size < wr.heap.size := (Array.getElem?_eq_some_iff.1 HG.out).1
      have hR6 := R_ne hR5 hglt
      have hRL := Kd.R_lower hR6 HBW.out.size
      have hg5 := (hb5.block _ hglt).trans HG.out
      have hbl := fun A m c (e : v5 = .slice A m c) => R_block (by rw [e] at hR6; exact hR6)
      obtain ⟨A6, c6, rfl, hl6, hC6⟩ := Kd.R_reads hR6
      have hbl6 := hbl A6 _ c6 rfl
      have h32 := codeL_len l0 u
      have hub := codeL_bytes l0 u
      rw [h32] at hl6 hC6 hRL ⊢
      obtain ⟨q, hq⟩ : ∃ q, q = codeL l0 u := ⟨_, rfl⟩
      rw [← hq] at hC6 h32 hub hRL
      have HU1 := Aside0.mk (show uL l0 l1 (i + 1) = q by rw [HU1.out, hq])
      have HOUT := Aside0.mk (show outL (seqU l0 l1 (i + 1)) = xorRow o q by rw [HOUT.out, hq])
      obtain ⟨ad, rfl, -⟩ := Kd.at_int hC6 0 (by decide) (by decide)
      have hadg := hbl6 ad rfl
      have HRL := Aside0.mk hRL
      have HGM := Aside0.mk (show w5.heap[w2.heap.size]? = some (.cells (rowV (mixL o q 0)) 5 (0, 0)) by rw [mix_zero o q HOL.out]; exact hg5)
      have HB5 := Aside0.mk (below_step HBW.out hb5)
      have HCQ := Aside0.mk hC6
      have HUB := Aside0.mk hub
      have H32 := Aside0.mk h32
      have HLT := Aside0.mk (show w2.heap.size < w5.heap.size from Nat.lt_of_lt_of_le hglt hb5.size)
      clear hR5 hb5 hR6 hRL hg5 hbl hC6 hbl6 hub hq h32 hglt
      clear hl6
      go_wp2
      go_loopw [10] (fun v10 wx => ∃ j : Nat, j ≤ 32 ∧ v10 = .int .i64 (j : Int) ∧ Aside0 (wx.heap[w2.heap.size]? = some (.cells (rowV (mixL o q j)) 5 (0, 0)) ∧ (∀ k, k < w5.heap.size → k ≠ w2.heap.size → wx.heap[k]? = w5.heap[k]?) ∧ Below w2.heap.size w5 wx)) (fun v10 _ => 32 - (intOf v10).toNat)
      case atStart => exact ⟨0, Nat.zero_le _, rfl, ⟨HGM.out, fun _ _ _ => rfl, Below.refl _ _⟩⟩
      case round =>
        obtain ⟨j, hj, rfl, ⟨⟨hg, hfar, hbw⟩⟩⟩ := hrel
        by_cases hj32 : j < 32
        · obtain ⟨_, ea, hx0⟩ := Kd.at_int HCQ.out (j : Int) (by omega) (by omega)
          cases ea
          rw [Int.toNat_natCast] at hx0
          have hx : wr.cell? (ad.add j) = some (.int .u8 (rd q (j : Int))) := by
            have hbk : (ad.add j).block = ad.block := by unfold Addr.add; split <;> rfl
            have hlt : (ad.add j).block < w5.heap.size := block_lt_of_cell hx0
            rw [← hx0]
            unfold World.cell?
            rw [hfar _ hlt (by rw [hbk]; exact hadg)]
          have hr : rd q (j : Int) = ((q.getD j 0).toNat : Int) := by
            have := HUB.out (rd q (j : Int)) (rd_mem (by rw [H32.out]; exact hj32))
            have e : rd q (j : Int) = q.getD j 0 := by simp [rd]
            rw [e] at this ⊢
            omega
          rw [hr] at hx
          have hci : wr.cell? ⟨w2.heap.size, j, none⟩ = some (.int .u8 ((o.getD j 0).toNat : Int)) := by
            rw [cell_of_row wr w2.heap.size j (rowV (mixL o q j)) _ _ hg]
            have h1 := mix_at o q j j hj32
            rw [if_neg (by omega)] at h1
            have h2 : o.getD j 0 = ((o.getD j 0).toNat : Int) := by
              have := HOB.out (o.getD j 0) (by rw [List.getD_eq_getElem?_getD, List.getElem?_eq_getElem (by rw [HOL.out]; exact hj32)]; exact List.getElem_mem _)
              omega
            simp only [rowV, List.getElem?_toArray, List.getElem?_map, h1, Option.map_some]
            rw [← h2]
          have hfi := blk_frozen hg j
          have ha := toNat_lt HOB.out j
          have hb := toNat_lt HUB.out j
          have hset := mix_set o q j hj32
          obtain ⟨p, hp⟩ : ∃ p, p = (o.getD j 0).toNat := ⟨_, rfl⟩
          obtain ⟨r, hrr⟩ : ∃ r, r = (q.getD j 0).toNat := ⟨_, rfl⟩
          rw [← hp] at hci ha hset
          rw [← hrr] at hx hb hset
          have hxr := xor8 p r ha hb
          have HSET := Aside0.mk hset
          have HGG := Aside0.mk hg
          have HFAR := Aside0.mk hfar
          have HBX := Aside0.mk hbw
          have kk1 : (j : Int) < 32 := by omega
          clear hset hg hfar hbw hx0 hr hp hrr
          go_wp2
          go_region
          go_wp2
          go_roundw
          case rel =>
            refine ⟨j + 1, by omega, by go_num, ⟨?_, fun k hk hkg => (Below.heap_setCell _ ⟨w2.heap.size, j, none⟩ _ k hkg).trans (HFAR.out k hk hkg), (HBX.out.setCell (Nat.le_refl _) _).drew⟩⟩
            have h1 := blk_set HGG.out j (Value.int .u8 ((p ^^^ r : Nat) : Int))
            rw [rowV_set, HSET.out] at h1
            exact h1
          case measure => simp [intOf]; omega
        · obtain rfl : j = 32 := by omega
          rw [mix_all] at hg
          have hRx : Kd.R (Kd.int .u8) 5 wr W.heap.size (fun k => k ≠ w2.heap.size) (.slice (some ad) 32 c6) q := Kd.R_mono (Kd.R_move (Kd.R_bound HRL.out) (fun k hk => hfar k hk.2.2.1 hk.1)) (fun _ hk => hk.1)
          have hBx : Below W.heap.size W wr := HB5.out.trans (hbw.mono HSZ.out)
          have HRX := Aside0.mk hRx
          have HBX := Aside0.mk hBx
          have HGX := Aside0.mk hg
          clear hg hfar hbw hRx hBx
          go_wp2
          go_roundw
          case rel => exact ⟨i + 1, by omega, by go_num, ⟨by rw [HU1.out]; exact HRX.out, by rw [HOUT.out]; exact HGX.out, HBX.out⟩⟩
          case measure => simp [intOf]; omega
    · obtain rfl : i = n := by omega
      have hlen : (outL (seqU l0 l1 i)).length = 32 := hashL_len l0 l1 i
      have hrow : Kd.C (Kd.int .u8) wr (some ⟨w2.heap.size, 0, none⟩) 32 (hashL l0 l1 i) := by
        have := row_of_cells wr w2.heap.size ((outL (seqU l0 l1 i)).map (Value.int .u8)) (outL (seqU l0 l1 i)) hg (by rw [hlen]; decide) (fun j hj => by simp [List.getD_eq_getElem?_getD, hj])
        rwa [hlen] at this
      have HROW := Aside0.mk hrow
      have HBW := Aside0.mk hbw
      clear hR hg hbw hlen hrow
      go_wp2
      go_ret
      exact ⟨_, rfl, ⟨some ⟨w2.heap.size, 0, none⟩, 32, rfl, HROW.out, Nat.le_refl _⟩, HBW.out⟩
end Go.Proofs.YtfmdpkilgnccfaaDoor.E

/- KdfHashes by hand. -/
namespace Go.Proofs.YtfmdpkilgnccfaaDoor.Pure
open Go.RowKit Go.Proofs.YtfmdpkilgnccfaaDoorW.PrintWords Go.Proofs.YtfmdpkilgnccfaaDoorW.PrintLast Go.Proofs.YtfmdpkilgnccfaaDoorW.PrintMore Go.Proofs.YtfmdpkilgnccfaaDoor.Pr Go.Proofs.YtfmdpkilgnccfaaDoor.E
set_option linter.unusedVariables false
set_option linter.unusedSimpArgs false
attribute [local go_sem] opVal opUpon
def RowPost (H : List Int) (X : World) (e : Ending) (w' : World) : Prop := ∃ v, e = .returned v ∧ RowB H v w' ∧ Below X.heap.size X w'
def BoolPost (b : Bool) (X : World) (e : Ending) (w' : World) : Prop := e = .returned (.bool b) ∧ Below X.heap.size X w'
theorem HL_in (p s : List Int) (n : Nat) (h1 : 1 ≤ n) (h2 : n ≤ 1000) : HL p s (n : Int) = hashL p s n := by unfold HL; rw [if_pos (by omega)]; rfl
theorem HL_out (p s : List Int) (n : Int) (h : n < 1 ∨ 1000 < n) : HL p s n = [] := by unfold HL; rw [if_neg (by omega)]
theorem HL_32 (p s : List Int) (n : Int) (h : HL p s n ≠ []) : (HL p s n).length = 32 := by
  unfold HL at h ⊢
  split at h
  · rw [if_pos (by assumption)]; exact hashL_len _ _ _
  · exact absurd rfl h
theorem khash (A0 : Option Addr) (c0 : Nat) (pass : List Int) (A1 : Option Addr) (c1 : Nat) (salt : List Int) (n : Int) (w : World) (hr0 : Kd.C (Kd.int .u8) w A0 pass.length pass) (hc0 : pass.length ≤ c0) (hb0 : ∀ x ∈ pass, 0 ≤ x ∧ x ≤ 255) (hl0 : pass.length ≤ 1000000)
    (hr1 : Kd.C (Kd.int .u8) w A1 salt.length salt) (hc1 : salt.length ≤ c1) (hb1 : ∀ x ∈ salt, 0 ≤ x ∧ x ≤ 255) (hl1 : salt.length ≤ 800000) (hG : RootsIn w) :
    Calls Tryd.prog 37 #[.slice A0 pass.length c0, .slice A1 salt.length c1, .int .i64 n] w (RowPost (HL pass salt n) w) := by
  by_cases hn : n < 1 ∨ 1000 < n
  · rw [HL_out _ _ _ hn]
    exact (hash_out A0 pass.length c0 A1 salt.length c1 n hn w).mono (by rintro e w' ⟨rfl, hb⟩; exact ⟨_, rfl, RowB.nil _, hb⟩)
  · obtain ⟨m, rfl⟩ : ∃ m : Nat, n = (m : Int) := ⟨n.toNat, by omega⟩
    rw [HL_in _ _ _ (by omega) (by omega)]
    exact (hash_any A0 c0 pass A1 c1 salt m (by omega) (by omega) w hr0 hc0 hb0 hl0 hr1 hc1 hb1 hl1 hG).mono (by rintro e w' ⟨v, rfl, hv, hb⟩; exact ⟨_, rfl, RowB.of_sum hv (hashL_len _ _ _), hb⟩)
theorem drhash (A0 : Option Addr) (c0 : Nat) (pass : List Int) (A1 : Option Addr) (c1 : Nat) (salt : List Int) (n : Int) (w : World) (hr0 : Kd.C (Kd.int .u8) w A0 pass.length pass) (hc0 : pass.length ≤ c0) (hb0 : ∀ x ∈ pass, 0 ≤ x ∧ x ≤ 255) (hl0 : pass.length ≤ 1000000)
    (hr1 : Kd.C (Kd.int .u8) w A1 salt.length salt) (hc1 : salt.length ≤ c1) (hb1 : ∀ x ∈ salt, 0 ≤ x ∧ x ≤ 255) (hl1 : salt.length ≤ 800000) :
    Calls Tryd.prog 41 #[.slice A0 pass.length c0, .slice A1 salt.length c1, .int .i64 n] w (RowPost (HL pass salt n) w) := by
  by_cases hn : n < 1 ∨ 1000 < n
  · rw [HL_out _ _ _ hn]
    exact (rhash_out A0 pass.length c0 A1 salt.length c1 n hn w).mono (by rintro e w' ⟨rfl, hb⟩; exact ⟨_, rfl, RowB.nil _, hb⟩)
  · obtain ⟨m, rfl⟩ : ∃ m : Nat, n = (m : Int) := ⟨n.toNat, by omega⟩
    rw [HL_in _ _ _ (by omega) (by omega)]
    exact (rhash_any A0 c0 pass A1 c1 salt m (by omega) (by omega) w hr0 hc0 hb0 hl0 hr1 hc1 hb1 hl1).mono (by rintro e w' ⟨v, rfl, hv, hb⟩; exact ⟨_, rfl, RowB.of_sum hv (hashL_len _ _ _), hb⟩)
theorem kright (A0 : Option Addr) (c0 : Nat) (pass : List Int) (A1 : Option Addr) (c1 : Nat) (salt : List Int) (n : Int) (w : World) (hr0 : Kd.C (Kd.int .u8) w A0 pass.length pass) (hc0 : pass.length ≤ c0) (hb0 : ∀ x ∈ pass, 0 ≤ x ∧ x ≤ 255) (hl0 : pass.length ≤ 1000000)
    (hr1 : Kd.C (Kd.int .u8) w A1 salt.length salt) (hc1 : salt.length ≤ c1) (hb1 : ∀ x ∈ salt, 0 ≤ x ∧ x ≤ 255) (hl1 : salt.length ≤ 800000) (A2 : Option Addr) (c2 : Nat) (hs : List Int) (hr2 : Kd.C (Kd.int .u8) w A2 hs.length hs) (hc2 : hs.length ≤ c2) (hb2 : ∀ x ∈ hs, 0 ≤ x ∧ x ≤ 255) (hG : RootsIn w) :
    Calls Tryd.prog 43 #[.slice A0 pass.length c0, .slice A1 salt.length c1, .int .i64 n, .slice A2 hs.length c2] w (BoolPost (decide (HL pass salt n ≠ [] ∧ HL pass salt n = hs)) w) := by
  by_cases hn : n < 1 ∨ 1000 < n
  · rw [HL_out _ _ _ hn, decide_eq_false (by rintro ⟨h, -⟩; exact h rfl)]
    exact right_out A0 pass.length c0 A1 salt.length c1 n A2 hs.length c2 hn w
  · obtain ⟨m, rfl⟩ : ∃ m : Nat, n = (m : Int) := ⟨n.toNat, by omega⟩
    rw [HL_in _ _ _ (by omega) (by omega)]
    have h := right_any A0 c0 pass A1 c1 salt m (by omega) (by omega) A2 c2 hs w hr0 hc0 hb0 hl0 hr1 hc1 hb1 hl1 hr2 hc2 hb2 hG
    have e : decide (hashL pass salt m ≠ [] ∧ hashL pass salt m = hs) = decide (hashL pass salt m = hs) := by
      have hne : hashL pass salt m ≠ [] := by intro h; have := hashL_len pass salt m; rw [h] at this; cases this
      by_cases hh : hashL pass salt m = hs
      · rw [decide_eq_true hh, decide_eq_true ⟨hne, hh⟩]
      · rw [decide_eq_false hh, decide_eq_false (fun h => hh h.2)]
    rw [e]
    exact h
set_option maxRecDepth 100000 in
set_option maxHeartbeats 4000000 in
theorem drright (A0 : Option Addr) (c0 : Nat) (pass : List Int) (A1 : Option Addr) (c1 : Nat) (salt : List Int) (n : Int) (w : World) (hr0 : Kd.C (Kd.int .u8) w A0 pass.length pass) (hc0 : pass.length ≤ c0) (hb0 : ∀ x ∈ pass, 0 ≤ x ∧ x ≤ 255) (hl0 : pass.length ≤ 1000000)
    (hr1 : Kd.C (Kd.int .u8) w A1 salt.length salt) (hc1 : salt.length ≤ c1) (hb1 : ∀ x ∈ salt, 0 ≤ x ∧ x ≤ 255) (hl1 : salt.length ≤ 800000) (A2 : Option Addr) (c2 : Nat) (hs : List Int) (hr2 : Kd.C (Kd.int .u8) w A2 hs.length hs) (hc2 : hs.length ≤ c2) (hb2 : ∀ x ∈ hs, 0 ≤ x ∧ x ≤ 255) :
    Calls Tryd.prog 44 #[.slice A0 pass.length c0, .slice A1 salt.length c1, .int .i64 n, .slice A2 hs.length c2] w (BoolPost (decide (HL pass salt n ≠ [] ∧ HL pass salt n = hs)) w) := by
  have hh := drhash A0 c0 pass A1 c1 salt n w hr0 hc0 hb0 hl0 hr1 hc1 hb1 hl1
  have h32 := HL_32 pass salt n
  have hDb := HL_bytes pass salt n
  obtain ⟨D, hD⟩ : ∃ D, D = HL pass salt n := ⟨_, rfl⟩
  rw [← hD] at hh h32 hDb ⊢
  clear hD
  have HH := Aside0.mk hh
  have HR2 := Aside0.mk hr2
  have HB2 := Aside0.mk hb2
  clear hr0 hb0 hr1 hb1 hr2 hb2 hh
  by_cases h0 : D = []
  · subst h0
    rw [decide_eq_false (by rintro ⟨h, -⟩; exact h rfl)]
    clear h32 hDb
    go_enter Tryd.func44, Tryd.ntmps44
    go_wp2_with (go_at_call 41; ((with_reducible refine (HH.out).mono ?_)))
    rintro e w1 ⟨v1, rfl, ⟨B, d, rfl, hC, hd⟩, hb⟩
    have HB := Aside0.mk hb
    clear hC hb
    simp only [List.length_nil]
    go_wp2
    go_ret
    exact ⟨rfl, HB.out⟩
  · have h32 := h32 h0
    obtain ⟨b, hbe⟩ : ∃ b, b = decide (D ≠ [] ∧ D = hs) := ⟨_, rfl⟩
    have hst : ((strOfNums D).toList == (strOfNums hs).toList) = b := by
      rw [hbe]
      by_cases hh : D = hs
      · rw [decide_eq_true ⟨h0, hh⟩, ← hh]; exact beq_self_eq_true _
      · rw [decide_eq_false (fun h => hh h.2)]; exact strOfNums_ne hDb HB2.out hh
    rw [← hbe]
    have H32 := Aside0.mk h32
    have HST := Aside0.mk hst
    clear hbe hst h32 h0 hDb
    go_enter Tryd.func44, Tryd.ntmps44
    go_wp2_with (go_at_call 41; ((with_reducible refine (HH.out).mono ?_)))
    rintro e w1 ⟨v1, rfl, ⟨B, d, rfl, hC, hd⟩, hb⟩
    have hs1 := Kd.C_string (P := Tryd.prog) (c := d) Tryd.underlying22 Tryd.underlying5 Tryd.underlying9 hC
    have hs2 := Kd.C_string (P := Tryd.prog) (c := c2) Tryd.underlying22 Tryd.underlying5 Tryd.underlying9 (Kd.C_below HR2.out hb)
    have HB := Aside0.mk hb
    have hst := HST.out
    rw [H32.out] at hs1 ⊢
    clear hC hb hd
    go_wp2
    go_ret
    exact ⟨rfl, HB.out⟩
set_option maxHeartbeats 16000000 in
set_option maxRecDepth 100000 in
theorem KdfHashes_at (W : World) (A0 : Option Addr) (c0 : Nat) (l0 : List Int) (hr0 : Kd.C (Kd.int .u8) W A0 l0.length l0) (hc0 : l0.length ≤ c0) (hb0 : ∀ x ∈ l0, 0 ≤ x ∧ x ≤ 255) (hl0 : l0.length ≤ 140737488351232)
    (A1 : Option Addr) (c1 : Nat) (l1 : List Int) (hr1 : Kd.C (Kd.int .u8) W A1 l1.length l1) (hc1 : l1.length ≤ c1) (hb1 : ∀ x ∈ l1, 0 ≤ x ∧ x ≤ 255) (hl1 : l1.length ≤ 140737488351232)
    (A2 : Option Addr) (c2 : Nat) (l2 : List Int) (hr2 : Kd.C (Kd.int .u8) W A2 l2.length l2) (hc2 : l2.length ≤ c2) (hb2 : ∀ x ∈ l2, 0 ≤ x ∧ x ≤ 255) (hl2 : l2.length ≤ 140737488351232)
    (a3 : Int) (w3 : (Lit.int .i64 a3).wf = true) (a4 : Int) (w4 : (Lit.int .u8 a4).wf = true) (hG : RootsIn W) :
    Calls Tryd.prog 17 #[.slice A0 l0.length c0, .slice A1 l1.length c1, .slice A2 l2.length c2, .int .i64 a3, .int .u8 a4] W fun e w' => e = .returned (.bool true) ∧ Below W.heap.size W w' := by
  have KN := Aside0.mk (fun (X : World) (hX : Below W.heap.size W X) => known4 X (hG.below rfl hX))
  have h4 := wf_u8 w4
  by_cases h200 : 200 < l0.length + l1.length + l2.length
  · skip
    have g0 : (200 : Int) < (l0.length : Int) + (l1.length : Int) + (l2.length : Int) := by omega
    have g1 : decide ((200 : Int) < (l0.length : Int) + (l1.length : Int) + (l2.length : Int)) = true := decide_eq_true g0
    clear hr0 hr1 hr2 hb0 hb1 hb2 hG w3 w4
    go_enter Tryd.func17, Tryd.ntmps17
    go_wp2_with (go_at_call 34; ((with_reducible refine (KN.out _ (Below.refl _ _)).mono ?_); rintro e w1 ⟨rfl, hb1⟩); have HB1 := Aside0.mk hb1; clear hb1)
    go_ret
    exact ⟨rfl, HB1.out⟩
  have g1 : ¬ (200 : Int) < (l0.length : Int) + (l1.length : Int) + (l2.length : Int) := by omega
  have g2 : decide ((200 : Int) < (l0.length : Int) + (l1.length : Int) + (l2.length : Int)) = false := decide_eq_false g1
  have n012 : l0.length + l1.length + l2.length ≤ 200 := by omega
  clear h200
  by_cases hor : 20 < a3 ∧ a3 ≤ 1000
  · obtain ⟨q1, q2⟩ := hor
    have q3 : decide ((20 : Int) < a3) = true := decide_eq_true q1
    have q4 : decide (a3 ≤ 1000) = true := decide_eq_true q2
    clear hr0 hr1 hr2 hb0 hb1 hb2 hG w3 w4
    go_enter Tryd.func17, Tryd.ntmps17
    go_wp2_with (go_at_call 34; ((with_reducible refine (KN.out _ (Below.refl _ _)).mono ?_); rintro e w1 ⟨rfl, hb1⟩); have HB1 := Aside0.mk hb1; clear hb1)
    go_ret
    exact ⟨rfl, HB1.out⟩
  obtain ⟨k, hk⟩ : ∃ k : Int, k = a4 % 14 - 1 := ⟨_, rfl⟩
  have e2 : a4 % 14 = k + 1 := by omega
  have e3 : k + 1 - 1 = k := by omega
  have hk1 : -1 ≤ k := by omega
  have hk2 : k ≤ 12 := by omega
  have HR0 := Aside0.mk hr0
  have HR1 := Aside0.mk hr1
  have HR2 := Aside0.mk hr2
  have HB0 := Aside0.mk hb0
  have HB1 := Aside0.mk hb1
  have HB2 := Aside0.mk hb2
  have HG := Aside0.mk hG
  obtain ⟨H1, hH1⟩ : ∃ H, H = HL l0 l1 a3 := ⟨_, rfl⟩
  obtain ⟨H2, hH2⟩ : ∃ H, H = HL l0 l1 k := ⟨_, rfl⟩
  obtain ⟨CD, hCD⟩ : ∃ H, H = codeL l0 l2 := ⟨_, rfl⟩
  obtain ⟨b1, hbb1⟩ : ∃ b, b = decide (HL l0 l1 k ≠ [] ∧ HL l0 l1 k = H2) := ⟨_, rfl⟩
  obtain ⟨b2, hbb2⟩ : ∃ b, b = decide (HL l0 l1 k ≠ [] ∧ HL l0 l1 k = l2) := ⟨_, rfl⟩
  obtain ⟨b3, hbb3⟩ : ∃ b, b = decide (HL l2 l1 k ≠ [] ∧ HL l2 l1 k = H2) := ⟨_, rfl⟩
  have hbt : ∀ b : Bool, (b == b) = true := fun b => beq_self_eq_true b
  have hH2b : ∀ x ∈ H2, 0 ≤ x ∧ x ≤ 255 := by rw [hH2]; exact HL_bytes _ _ _
  have h1a : ∀ X, Below W.heap.size W X → Calls Tryd.prog 37 #[.slice A0 l0.length c0, .slice A1 l1.length c1, .int .i64 a3] X (RowPost H1 X) := fun X hX => by
    rw [hH1]; exact khash A0 c0 l0 A1 c1 l1 a3 X (Kd.C_below hr0 hX) hc0 hb0 (by omega) (Kd.C_below hr1 hX) hc1 hb1 (by omega) (hG.below rfl hX)
  have h1b : ∀ X, Below W.heap.size W X → Calls Tryd.prog 41 #[.slice A0 l0.length c0, .slice A1 l1.length c1, .int .i64 a3] X (RowPost H1 X) := fun X hX => by
    rw [hH1]; exact drhash A0 c0 l0 A1 c1 l1 a3 X (Kd.C_below hr0 hX) hc0 hb0 (by omega) (Kd.C_below hr1 hX) hc1 hb1 (by omega)
  have h2a : ∀ X, Below W.heap.size W X → Calls Tryd.prog 37 #[.slice A0 l0.length c0, .slice A1 l1.length c1, .int .i64 k] X (RowPost H2 X) := fun X hX => by
    rw [hH2]; exact khash A0 c0 l0 A1 c1 l1 k X (Kd.C_below hr0 hX) hc0 hb0 (by omega) (Kd.C_below hr1 hX) hc1 hb1 (by omega) (hG.below rfl hX)
  have h2b : ∀ X, Below W.heap.size W X → Calls Tryd.prog 41 #[.slice A0 l0.length c0, .slice A1 l1.length c1, .int .i64 k] X (RowPost H2 X) := fun X hX => by
    rw [hH2]; exact drhash A0 c0 l0 A1 c1 l1 k X (Kd.C_below hr0 hX) hc0 hb0 (by omega) (Kd.C_below hr1 hX) hc1 hb1 (by omega)
  have hra : ∀ X, Below W.heap.size W X → Calls Tryd.prog 36 #[.slice A0 l0.length c0, .slice A2 l2.length c2] X (RowPost CD X) := fun X hX => by
    rw [hCD]; exact (round_any A0 c0 l0 A2 c2 l2 X (Kd.C_below hr0 hX) hc0 hb0 (by omega) (Kd.C_below hr2 hX) hc2 hb2 (by omega) (hG.below rfl hX)).mono (by rintro e w' ⟨v, rfl, hR, hb⟩; exact ⟨_, rfl, RowB.of_R hR, hb⟩)
  have hrb : ∀ X, Below W.heap.size W X → Calls Tryd.prog 42 #[.slice A0 l0.length c0, .slice A2 l2.length c2] X (RowPost CD X) := fun X hX => by
    rw [hCD]; exact (rround_any A0 c0 l0 A2 c2 l2 X (Kd.C_below hr0 hX) hc0 hb0 (by omega) (Kd.C_below hr2 hX) hc2 hb2 (by omega)).mono (by rintro e w' ⟨v, rfl, hR, hb⟩; exact ⟨_, rfl, RowB.of_R hR, hb⟩)
  have r2a : ∀ X, Below W.heap.size W X → Calls Tryd.prog 43 #[.slice A0 l0.length c0, .slice A1 l1.length c1, .int .i64 k, .slice A2 l2.length c2] X (BoolPost b2 X) := fun X hX => by
    rw [hbb2]; exact kright A0 c0 l0 A1 c1 l1 k X (Kd.C_below hr0 hX) hc0 hb0 (by omega) (Kd.C_below hr1 hX) hc1 hb1 (by omega) A2 c2 l2 (Kd.C_below hr2 hX) hc2 hb2 (hG.below rfl hX)
  have r2b : ∀ X, Below W.heap.size W X → Calls Tryd.prog 44 #[.slice A0 l0.length c0, .slice A1 l1.length c1, .int .i64 k, .slice A2 l2.length c2] X (BoolPost b2 X) := fun X hX => by
    rw [hbb2]; exact drright A0 c0 l0 A1 c1 l1 k X (Kd.C_below hr0 hX) hc0 hb0 (by omega) (Kd.C_below hr1 hX) hc1 hb1 (by omega) A2 c2 l2 (Kd.C_below hr2 hX) hc2 hb2
  have r1a : ∀ X, Below W.heap.size W X → ∀ B d, Kd.C (Kd.int .u8) X B H2.length H2 → H2.length ≤ d → Calls Tryd.prog 43 #[.slice A0 l0.length c0, .slice A1 l1.length c1, .int .i64 k, .slice B H2.length d] X (BoolPost b1 X) := fun X hX B d hC hd => by
    rw [hbb1]; exact kright A0 c0 l0 A1 c1 l1 k X (Kd.C_below hr0 hX) hc0 hb0 (by omega) (Kd.C_below hr1 hX) hc1 hb1 (by omega) B d H2 hC hd hH2b (hG.below rfl hX)
  have r1b : ∀ X, Below W.heap.size W X → ∀ B d, Kd.C (Kd.int .u8) X B H2.length H2 → H2.length ≤ d → Calls Tryd.prog 44 #[.slice A0 l0.length c0, .slice A1 l1.length c1, .int .i64 k, .slice B H2.length d] X (BoolPost b1 X) := fun X hX B d hC hd => by
    rw [hbb1]; exact drright A0 c0 l0 A1 c1 l1 k X (Kd.C_below hr0 hX) hc0 hb0 (by omega) (Kd.C_below hr1 hX) hc1 hb1 (by omega) B d H2 hC hd hH2b
  have r3a : ∀ X, Below W.heap.size W X → ∀ B d, Kd.C (Kd.int .u8) X B H2.length H2 → H2.length ≤ d → Calls Tryd.prog 43 #[.slice A2 l2.length c2, .slice A1 l1.length c1, .int .i64 k, .slice B H2.length d] X (BoolPost b3 X) := fun X hX B d hC hd => by
    rw [hbb3]; exact kright A2 c2 l2 A1 c1 l1 k X (Kd.C_below hr2 hX) hc2 hb2 (by omega) (Kd.C_below hr1 hX) hc1 hb1 (by omega) B d H2 hC hd hH2b (hG.below rfl hX)
  have r3b : ∀ X, Below W.heap.size W X → ∀ B d, Kd.C (Kd.int .u8) X B H2.length H2 → H2.length ≤ d → Calls Tryd.prog 44 #[.slice A2 l2.length c2, .slice A1 l1.length c1, .int .i64 k, .slice B H2.length d] X (BoolPost b3 X) := fun X hX B d hC hd => by
    rw [hbb3]; exact drright A2 c2 l2 A1 c1 l1 k X (Kd.C_below hr2 hX) hc2 hb2 (by omega) (Kd.C_below hr1 hX) hc1 hb1 (by omega) B d H2 hC hd hH2b
  have hst0 : True := trivial
  obtain ⟨n0, hn0⟩ : ∃ n, n = l0.length := ⟨_, rfl⟩
  obtain ⟨n1, hn1⟩ : ∃ n, n = l1.length := ⟨_, rfl⟩
  obtain ⟨n2, hn2⟩ : ∃ n, n = l2.length := ⟨_, rfl⟩
  have H1A := Aside0.mk h1a
  have H1B := Aside0.mk h1b
  have H2A := Aside0.mk h2a
  have H2B := Aside0.mk h2b
  have HRA := Aside0.mk hra
  have HRB := Aside0.mk hrb
  have R1A := Aside0.mk r1a
  have R1B := Aside0.mk r1b
  have R2A := Aside0.mk r2a
  have R2B := Aside0.mk r2b
  have R3A := Aside0.mk r3a
  have R3B := Aside0.mk r3b
  clear h1a h1b h2a h2b hra hrb r1a r1b r2a r2b r3a r3b
  rw [← hn0, ← hn1, ← hn2] at g1 g2
  simp only [← hn0, ← hn1, ← hn2] at H1A H1B H2A H2B HRA HRB R1A R1B R2A R2B R3A R3B ⊢
  clear hr0 hr1 hr2 hb0 hb1 hb2 hG w3 w4 hk hH1 hCD hbb1 hbb2 hbb3 hH2 hH2b hn0 hn1 hn2 hc0 hc1 hc2 hl0 hl1 hl2 n012
  have fin : True := trivial
  by_cases hlo : 20 < a3
  · have q1 : ¬ a3 ≤ 1000 := by omega
    have q3 : decide ((20 : Int) < a3) = true := decide_eq_true hlo
    have q4 : decide (a3 ≤ 1000) = false := decide_eq_false q1
    clear hor
    go_enter Tryd.func17, Tryd.ntmps17
    go_wp2_with (go_at_call 34; ((with_reducible refine (KN.out _ (Below.refl _ _)).mono ?_); rintro e w1 ⟨rfl, hb1⟩); have HBK := Aside0.mk hb1; clear hb1)
    go_wp2_with (go_at_call 41; ((with_reducible refine (H2B.out _ HBK.out).mono ?_)))
    rintro e w4 ⟨v4, rfl, ⟨Bh, d, rfl, hCh, hdh⟩, hb4⟩
    have HW4 := Aside0.mk (below_step HBK.out hb4)
    have HDH := Aside0.mk hdh
    have HCH := Aside0.mk hCh
    obtain ⟨hn, hhn⟩ : ∃ n, n = H2.length := ⟨_, rfl⟩
    simp only [← hhn] at HDH HCH R1A R1B R3A R3B ⊢
    clear hCh hdh hb4 hhn
    go_wp2
    refine wp_region_inv_ex (fun X => Below w4.heap.size w4 X) (fun X Y => Below X.heap.size X Y) (BOf
        [some (.slice A0 n0 c0), some (.slice A1 n1 c1), some (.int .i64 a3), none, some (.string (strOfNums H1)), some (.slice A0 n0 c0), some (.slice A1 n1 c1), some (.int .i64 a3), none, some (.string (strOfNums H1)), some (.bool true), some (.bool true), some (.slice A0 n0 c0), some (.slice A1 n1 c1), some (.int .i64 k), none, some (.string (strOfNums H2)), some (.slice Bh hn d), some (.string (strOfNums H2)), some (.bool true), some (.bool true), some (.bool true)]
        [(3, RowB H1), (8, RowB H1), (15, RowB H2)])
      (by kernel_rfl) (by kernel_rfl) (by kernel_rfl) (fun X => Below.refl _ X) (BOf_below ?hspQ) (Below.refl _ _).drew ?allQ
    case hspQ => simp [RowB.sp]
    apply Exists.intro
    refine ⟨?hAQ, ?stepsQ, ?finQ⟩
    case hAQ =>
      simp only [lay, Act.put, List.setIfInBounds_toArray, List.set_cons_zero, List.set_cons_succ, Nat.zero_add, Nat.reduceAdd]
      exact rfl
    case stepsQ =>
      repeat' (first | exact Steps.nil | refine Steps.cons ?_ ?_)
      all_goals (intro us X F hC hd hF; simp only [Deps, BOf, pureAt, spAt] at hd hF)
      all_goals (try simp only [Nat.reduceAdd, Nat.reduceEqDiff, false_implies, true_implies, and_true, true_and] at hd hF)
      all_goals (have hsA := Kd.C_string (P := Tryd.prog) (c := d) Tryd.underlying22 Tryd.underlying5 Tryd.underlying9 (Kd.C_below HCH.out hC))
      all_goals (try (first | (refine Exists.elim (show RowB H1 _ _ from hd) ?_; rintro B ⟨dd, e, hCg, hdg⟩; have hsB := Kd.C_string (P := Tryd.prog) (c := dd) Tryd.underlying22 Tryd.underlying5 Tryd.underlying9 hCg) | (refine Exists.elim (show RowB H1 _ _ from hd.1) ?_; rintro B ⟨dd, e, hCg, hdg⟩; have hsB := Kd.C_string (P := Tryd.prog) (c := dd) Tryd.underlying22 Tryd.underlying5 Tryd.underlying9 hCg) | (refine Exists.elim (show RowB H1 _ _ from hd.2) ?_; rintro B ⟨dd, e, hCg, hdg⟩; have hsB := Kd.C_string (P := Tryd.prog) (c := dd) Tryd.underlying22 Tryd.underlying5 Tryd.underlying9 hCg) | (refine Exists.elim (show RowB H1 _ _ from hd.2.1) ?_; rintro B ⟨dd, e, hCg, hdg⟩; have hsB := Kd.C_string (P := Tryd.prog) (c := dd) Tryd.underlying22 Tryd.underlying5 Tryd.underlying9 hCg) | (refine Exists.elim (show RowB H2 _ _ from hd) ?_; rintro B ⟨dd, e, hCg, hdg⟩; have hsB := Kd.C_string (P := Tryd.prog) (c := dd) Tryd.underlying22 Tryd.underlying5 Tryd.underlying9 hCg) | (refine Exists.elim (show RowB H2 _ _ from hd.1) ?_; rintro B ⟨dd, e, hCg, hdg⟩; have hsB := Kd.C_string (P := Tryd.prog) (c := dd) Tryd.underlying22 Tryd.underlying5 Tryd.underlying9 hCg) | (refine Exists.elim (show RowB H2 _ _ from hd.2) ?_; rintro B ⟨dd, e, hCg, hdg⟩; have hsB := Kd.C_string (P := Tryd.prog) (c := dd) Tryd.underlying22 Tryd.underlying5 Tryd.underlying9 hCg) | (refine Exists.elim (show RowB H2 _ _ from hd.2.1) ?_; rintro B ⟨dd, e, hCg, hdg⟩; have hsB := Kd.C_string (P := Tryd.prog) (c := dd) Tryd.underlying22 Tryd.underlying5 Tryd.underlying9 hCg)))
      all_goals go_simp
      all_goals (first
        | exact hF _ _ hC (Below.refl _ _) rfl
        | ((with_reducible refine (H1A.out _ (below_step HW4.out hC)).mono ?_); rintro e w' ⟨v, rfl, hv, hb⟩; exact ⟨_, rfl, hF _ _ (below_step hC hb) hb hv⟩)
        | ((with_reducible refine (H1B.out _ (below_step HW4.out hC)).mono ?_); rintro e w' ⟨v, rfl, hv, hb⟩; exact ⟨_, rfl, hF _ _ (below_step hC hb) hb hv⟩)
        | ((with_reducible refine (H2A.out _ (below_step HW4.out hC)).mono ?_); rintro e w' ⟨v, rfl, hv, hb⟩; exact ⟨_, rfl, hF _ _ (below_step hC hb) hb hv⟩)
        | ((with_reducible refine (H2B.out _ (below_step HW4.out hC)).mono ?_); rintro e w' ⟨v, rfl, hv, hb⟩; exact ⟨_, rfl, hF _ _ (below_step hC hb) hb hv⟩))
    case finQ =>
      intro us X hC hB
      have h21 : us 21 = .bool true := (hB 21 (by decide)).1
      rw [h21]
      have HCX := Aside0.mk hC
      clear hC hB h21
      go_wp2
      refine wp_region_inv_ex (fun X => Below w4.heap.size w4 X) (fun X Y => Below X.heap.size X Y) (BOf
          [some (.bool true), some (.bool true), some (.slice A0 n0 c0), some (.slice A2 n2 c2), none, some (.string (strOfNums CD)), some (.slice A0 n0 c0), some (.slice A2 n2 c2), none, some (.string (strOfNums CD)), some (.bool true), some (.bool true), some (.bool true), some (.slice A0 n0 c0), some (.slice A1 n1 c1), some (.int .i64 k), some (.slice Bh hn d), some (.bool b1), some (.slice A0 n0 c0), some (.slice A1 n1 c1), some (.int .i64 k), some (.slice Bh hn d), some (.bool b1), some (.bool true), some (.bool true), some (.bool true), some (.slice A0 n0 c0), some (.slice A1 n1 c1), some (.int .i64 k), some (.slice A2 n2 c2), some (.bool b2), some (.slice A0 n0 c0), some (.slice A1 n1 c1), some (.int .i64 k), some (.slice A2 n2 c2), some (.bool b2), some (.bool true), some (.bool true), some (.bool true), some (.slice A2 n2 c2), some (.slice A1 n1 c1), some (.int .i64 k), some (.slice Bh hn d), some (.bool b3), some (.slice A2 n2 c2), some (.slice A1 n1 c1), some (.int .i64 k), some (.slice Bh hn d), some (.bool b3), some (.bool true), some (.bool true), some (.bool true)]
          [(4, RowB CD), (8, RowB CD)])
        (by kernel_rfl) (by kernel_rfl) (by kernel_rfl) (fun X => Below.refl _ X) (BOf_below ?hspR) HCX.out.drew ?allR
      case hspR => simp [RowB.sp]
      apply Exists.intro
      refine ⟨?hAR, ?stepsR, ?finR⟩
      case hAR =>
        simp only [lay, Act.put, List.setIfInBounds_toArray, List.set_cons_zero, List.set_cons_succ, Nat.zero_add, Nat.reduceAdd]
        exact rfl
      case stepsR =>
        repeat' (first | exact Steps.nil | refine Steps.cons ?_ ?_)
        all_goals (intro us X F hC hd hF; simp only [Deps, BOf, pureAt, spAt] at hd hF)
        all_goals (try simp only [Nat.reduceAdd, Nat.reduceEqDiff, false_implies, true_implies, and_true, true_and] at hd hF)
        all_goals (try (first | (refine Exists.elim (show RowB CD _ _ from hd) ?_; rintro B ⟨dd, e, hCg, hdg⟩; have hsB := Kd.C_string (P := Tryd.prog) (c := dd) Tryd.underlying22 Tryd.underlying5 Tryd.underlying9 hCg) | (refine Exists.elim (show RowB CD _ _ from hd.1) ?_; rintro B ⟨dd, e, hCg, hdg⟩; have hsB := Kd.C_string (P := Tryd.prog) (c := dd) Tryd.underlying22 Tryd.underlying5 Tryd.underlying9 hCg) | (refine Exists.elim (show RowB CD _ _ from hd.2) ?_; rintro B ⟨dd, e, hCg, hdg⟩; have hsB := Kd.C_string (P := Tryd.prog) (c := dd) Tryd.underlying22 Tryd.underlying5 Tryd.underlying9 hCg) | (refine Exists.elim (show RowB CD _ _ from hd.2.1) ?_; rintro B ⟨dd, e, hCg, hdg⟩; have hsB := Kd.C_string (P := Tryd.prog) (c := dd) Tryd.underlying22 Tryd.underlying5 Tryd.underlying9 hCg)))
        all_goals go_simp
        all_goals (first
          | exact hF _ _ hC (Below.refl _ _) rfl
          | ((with_reducible refine (HRA.out _ (below_step HW4.out hC)).mono ?_); rintro e w' ⟨v, rfl, hv, hb⟩; exact ⟨_, rfl, hF _ _ (below_step hC hb) hb hv⟩)
          | ((with_reducible refine (HRB.out _ (below_step HW4.out hC)).mono ?_); rintro e w' ⟨v, rfl, hv, hb⟩; exact ⟨_, rfl, hF _ _ (below_step hC hb) hb hv⟩)
          | ((with_reducible refine (R2A.out _ (below_step HW4.out hC)).mono ?_); rintro e w' ⟨rfl, hb⟩; exact ⟨_, rfl, hF _ _ (below_step hC hb) hb rfl⟩)
          | ((with_reducible refine (R2B.out _ (below_step HW4.out hC)).mono ?_); rintro e w' ⟨rfl, hb⟩; exact ⟨_, rfl, hF _ _ (below_step hC hb) hb rfl⟩)
          | ((with_reducible refine (R1A.out _ (below_step HW4.out hC) _ _ (Kd.C_below HCH.out hC) HDH.out).mono ?_); rintro e w' ⟨rfl, hb⟩; exact ⟨_, rfl, hF _ _ (below_step hC hb) hb rfl⟩)
          | ((with_reducible refine (R1B.out _ (below_step HW4.out hC) _ _ (Kd.C_below HCH.out hC) HDH.out).mono ?_); rintro e w' ⟨rfl, hb⟩; exact ⟨_, rfl, hF _ _ (below_step hC hb) hb rfl⟩)
          | ((with_reducible refine (R3A.out _ (below_step HW4.out hC) _ _ (Kd.C_below HCH.out hC) HDH.out).mono ?_); rintro e w' ⟨rfl, hb⟩; exact ⟨_, rfl, hF _ _ (below_step hC hb) hb rfl⟩)
          | ((with_reducible refine (R3B.out _ (below_step HW4.out hC) _ _ (Kd.C_below HCH.out hC) HDH.out).mono ?_); rintro e w' ⟨rfl, hb⟩; exact ⟨_, rfl, hF _ _ (below_step hC hb) hb rfl⟩))
      case finR =>
        intro us X hC hB
        have h51 : us 51 = .bool true := (hB 51 (by decide)).1
        rw [h51]
        go_wp2
        go_ret
        exact ⟨rfl, below_step HW4.out hC⟩
  · have q3 : decide ((20 : Int) < a3) = false := decide_eq_false hlo
    clear hor
    go_enter Tryd.func17, Tryd.ntmps17
    go_wp2_with (go_at_call 34; ((with_reducible refine (KN.out _ (Below.refl _ _)).mono ?_); rintro e w1 ⟨rfl, hb1⟩); have HBK := Aside0.mk hb1; clear hb1)
    go_wp2_with (go_at_call 41; ((with_reducible refine (H2B.out _ HBK.out).mono ?_)))
    rintro e w4 ⟨v4, rfl, ⟨Bh, d, rfl, hCh, hdh⟩, hb4⟩
    have HW4 := Aside0.mk (below_step HBK.out hb4)
    have HDH := Aside0.mk hdh
    have HCH := Aside0.mk hCh
    obtain ⟨hn, hhn⟩ : ∃ n, n = H2.length := ⟨_, rfl⟩
    simp only [← hhn] at HDH HCH R1A R1B R3A R3B ⊢
    clear hCh hdh hb4 hhn
    go_wp2
    refine wp_region_inv_ex (fun X => Below w4.heap.size w4 X) (fun X Y => Below X.heap.size X Y) (BOf
        [some (.slice A0 n0 c0), some (.slice A1 n1 c1), some (.int .i64 a3), none, some (.string (strOfNums H1)), some (.slice A0 n0 c0), some (.slice A1 n1 c1), some (.int .i64 a3), none, some (.string (strOfNums H1)), some (.bool true), some (.bool true), some (.slice A0 n0 c0), some (.slice A1 n1 c1), some (.int .i64 k), none, some (.string (strOfNums H2)), some (.slice Bh hn d), some (.string (strOfNums H2)), some (.bool true), some (.bool true), some (.bool true)]
        [(3, RowB H1), (8, RowB H1), (15, RowB H2)])
      (by kernel_rfl) (by kernel_rfl) (by kernel_rfl) (fun X => Below.refl _ X) (BOf_below ?hspQ2) (Below.refl _ _).drew ?allQ2
    case hspQ2 => simp [RowB.sp]
    apply Exists.intro
    refine ⟨?hAQ2, ?stepsQ2, ?finQ2⟩
    case hAQ2 =>
      simp only [lay, Act.put, List.setIfInBounds_toArray, List.set_cons_zero, List.set_cons_succ, Nat.zero_add, Nat.reduceAdd]
      exact rfl
    case stepsQ2 =>
      repeat' (first | exact Steps.nil | refine Steps.cons ?_ ?_)
      all_goals (intro us X F hC hd hF; simp only [Deps, BOf, pureAt, spAt] at hd hF)
      all_goals (try simp only [Nat.reduceAdd, Nat.reduceEqDiff, false_implies, true_implies, and_true, true_and] at hd hF)
      all_goals (have hsA := Kd.C_string (P := Tryd.prog) (c := d) Tryd.underlying22 Tryd.underlying5 Tryd.underlying9 (Kd.C_below HCH.out hC))
      all_goals (try (first | (refine Exists.elim (show RowB H1 _ _ from hd) ?_; rintro B ⟨dd, e, hCg, hdg⟩; have hsB := Kd.C_string (P := Tryd.prog) (c := dd) Tryd.underlying22 Tryd.underlying5 Tryd.underlying9 hCg) | (refine Exists.elim (show RowB H1 _ _ from hd.1) ?_; rintro B ⟨dd, e, hCg, hdg⟩; have hsB := Kd.C_string (P := Tryd.prog) (c := dd) Tryd.underlying22 Tryd.underlying5 Tryd.underlying9 hCg) | (refine Exists.elim (show RowB H1 _ _ from hd.2) ?_; rintro B ⟨dd, e, hCg, hdg⟩; have hsB := Kd.C_string (P := Tryd.prog) (c := dd) Tryd.underlying22 Tryd.underlying5 Tryd.underlying9 hCg) | (refine Exists.elim (show RowB H1 _ _ from hd.2.1) ?_; rintro B ⟨dd, e, hCg, hdg⟩; have hsB := Kd.C_string (P := Tryd.prog) (c := dd) Tryd.underlying22 Tryd.underlying5 Tryd.underlying9 hCg) | (refine Exists.elim (show RowB H2 _ _ from hd) ?_; rintro B ⟨dd, e, hCg, hdg⟩; have hsB := Kd.C_string (P := Tryd.prog) (c := dd) Tryd.underlying22 Tryd.underlying5 Tryd.underlying9 hCg) | (refine Exists.elim (show RowB H2 _ _ from hd.1) ?_; rintro B ⟨dd, e, hCg, hdg⟩; have hsB := Kd.C_string (P := Tryd.prog) (c := dd) Tryd.underlying22 Tryd.underlying5 Tryd.underlying9 hCg) | (refine Exists.elim (show RowB H2 _ _ from hd.2) ?_; rintro B ⟨dd, e, hCg, hdg⟩; have hsB := Kd.C_string (P := Tryd.prog) (c := dd) Tryd.underlying22 Tryd.underlying5 Tryd.underlying9 hCg) | (refine Exists.elim (show RowB H2 _ _ from hd.2.1) ?_; rintro B ⟨dd, e, hCg, hdg⟩; have hsB := Kd.C_string (P := Tryd.prog) (c := dd) Tryd.underlying22 Tryd.underlying5 Tryd.underlying9 hCg)))
      all_goals go_simp
      all_goals (first
        | exact hF _ _ hC (Below.refl _ _) rfl
        | ((with_reducible refine (H1A.out _ (below_step HW4.out hC)).mono ?_); rintro e w' ⟨v, rfl, hv, hb⟩; exact ⟨_, rfl, hF _ _ (below_step hC hb) hb hv⟩)
        | ((with_reducible refine (H1B.out _ (below_step HW4.out hC)).mono ?_); rintro e w' ⟨v, rfl, hv, hb⟩; exact ⟨_, rfl, hF _ _ (below_step hC hb) hb hv⟩)
        | ((with_reducible refine (H2A.out _ (below_step HW4.out hC)).mono ?_); rintro e w' ⟨v, rfl, hv, hb⟩; exact ⟨_, rfl, hF _ _ (below_step hC hb) hb hv⟩)
        | ((with_reducible refine (H2B.out _ (below_step HW4.out hC)).mono ?_); rintro e w' ⟨v, rfl, hv, hb⟩; exact ⟨_, rfl, hF _ _ (below_step hC hb) hb hv⟩))
    case finQ2 =>
      intro us X hC hB
      have h21 : us 21 = .bool true := (hB 21 (by decide)).1
      rw [h21]
      have HCX := Aside0.mk hC
      clear hC hB h21
      go_wp2
      refine wp_region_inv_ex (fun X => Below w4.heap.size w4 X) (fun X Y => Below X.heap.size X Y) (BOf
          [some (.bool true), some (.bool true), some (.slice A0 n0 c0), some (.slice A2 n2 c2), none, some (.string (strOfNums CD)), some (.slice A0 n0 c0), some (.slice A2 n2 c2), none, some (.string (strOfNums CD)), some (.bool true), some (.bool true), some (.bool true), some (.slice A0 n0 c0), some (.slice A1 n1 c1), some (.int .i64 k), some (.slice Bh hn d), some (.bool b1), some (.slice A0 n0 c0), some (.slice A1 n1 c1), some (.int .i64 k), some (.slice Bh hn d), some (.bool b1), some (.bool true), some (.bool true), some (.bool true), some (.slice A0 n0 c0), some (.slice A1 n1 c1), some (.int .i64 k), some (.slice A2 n2 c2), some (.bool b2), some (.slice A0 n0 c0), some (.slice A1 n1 c1), some (.int .i64 k), some (.slice A2 n2 c2), some (.bool b2), some (.bool true), some (.bool true), some (.bool true), some (.slice A2 n2 c2), some (.slice A1 n1 c1), some (.int .i64 k), some (.slice Bh hn d), some (.bool b3), some (.slice A2 n2 c2), some (.slice A1 n1 c1), some (.int .i64 k), some (.slice Bh hn d), some (.bool b3), some (.bool true), some (.bool true), some (.bool true)]
          [(4, RowB CD), (8, RowB CD)])
        (by kernel_rfl) (by kernel_rfl) (by kernel_rfl) (fun X => Below.refl _ X) (BOf_below ?hspR2) HCX.out.drew ?allR2
      case hspR2 => simp [RowB.sp]
      apply Exists.intro
      refine ⟨?hAR2, ?stepsR2, ?finR2⟩
      case hAR2 =>
        simp only [lay, Act.put, List.setIfInBounds_toArray, List.set_cons_zero, List.set_cons_succ, Nat.zero_add, Nat.reduceAdd]
        exact rfl
      case stepsR2 =>
        repeat' (first | exact Steps.nil | refine Steps.cons ?_ ?_)
        all_goals (intro us X F hC hd hF; simp only [Deps, BOf, pureAt, spAt] at hd hF)
        all_goals (try simp only [Nat.reduceAdd, Nat.reduceEqDiff, false_implies, true_implies, and_true, true_and] at hd hF)
        all_goals (try (first | (refine Exists.elim (show RowB CD _ _ from hd) ?_; rintro B ⟨dd, e, hCg, hdg⟩; have hsB := Kd.C_string (P := Tryd.prog) (c := dd) Tryd.underlying22 Tryd.underlying5 Tryd.underlying9 hCg) | (refine Exists.elim (show RowB CD _ _ from hd.1) ?_; rintro B ⟨dd, e, hCg, hdg⟩; have hsB := Kd.C_string (P := Tryd.prog) (c := dd) Tryd.underlying22 Tryd.underlying5 Tryd.underlying9 hCg) | (refine Exists.elim (show RowB CD _ _ from hd.2) ?_; rintro B ⟨dd, e, hCg, hdg⟩; have hsB := Kd.C_string (P := Tryd.prog) (c := dd) Tryd.underlying22 Tryd.underlying5 Tryd.underlying9 hCg) | (refine Exists.elim (show RowB CD _ _ from hd.2.1) ?_; rintro B ⟨dd, e, hCg, hdg⟩; have hsB := Kd.C_string (P := Tryd.prog) (c := dd) Tryd.underlying22 Tryd.underlying5 Tryd.underlying9 hCg)))
        all_goals go_simp
        all_goals (first
          | exact hF _ _ hC (Below.refl _ _) rfl
          | ((with_reducible refine (HRA.out _ (below_step HW4.out hC)).mono ?_); rintro e w' ⟨v, rfl, hv, hb⟩; exact ⟨_, rfl, hF _ _ (below_step hC hb) hb hv⟩)
          | ((with_reducible refine (HRB.out _ (below_step HW4.out hC)).mono ?_); rintro e w' ⟨v, rfl, hv, hb⟩; exact ⟨_, rfl, hF _ _ (below_step hC hb) hb hv⟩)
          | ((with_reducible refine (R2A.out _ (below_step HW4.out hC)).mono ?_); rintro e w' ⟨rfl, hb⟩; exact ⟨_, rfl, hF _ _ (below_step hC hb) hb rfl⟩)
          | ((with_reducible refine (R2B.out _ (below_step HW4.out hC)).mono ?_); rintro e w' ⟨rfl, hb⟩; exact ⟨_, rfl, hF _ _ (below_step hC hb) hb rfl⟩)
          | ((with_reducible refine (R1A.out _ (below_step HW4.out hC) _ _ (Kd.C_below HCH.out hC) HDH.out).mono ?_); rintro e w' ⟨rfl, hb⟩; exact ⟨_, rfl, hF _ _ (below_step hC hb) hb rfl⟩)
          | ((with_reducible refine (R1B.out _ (below_step HW4.out hC) _ _ (Kd.C_below HCH.out hC) HDH.out).mono ?_); rintro e w' ⟨rfl, hb⟩; exact ⟨_, rfl, hF _ _ (below_step hC hb) hb rfl⟩)
          | ((with_reducible refine (R3A.out _ (below_step HW4.out hC) _ _ (Kd.C_below HCH.out hC) HDH.out).mono ?_); rintro e w' ⟨rfl, hb⟩; exact ⟨_, rfl, hF _ _ (below_step hC hb) hb rfl⟩)
          | ((with_reducible refine (R3B.out _ (below_step HW4.out hC) _ _ (Kd.C_below HCH.out hC) HDH.out).mono ?_); rintro e w' ⟨rfl, hb⟩; exact ⟨_, rfl, hF _ _ (below_step hC hb) hb rfl⟩))
      case finR2 =>
        intro us X hC hB
        have h51 : us 51 = .bool true := (hB 51 (by decide)).1
        rw [h51]
        go_wp2
        go_ret
        exact ⟨rfl, below_step HW4.out hC⟩
end Go.Proofs.YtfmdpkilgnccfaaDoor.Pure
