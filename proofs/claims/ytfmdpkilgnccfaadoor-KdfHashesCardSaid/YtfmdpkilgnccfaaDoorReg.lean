/- A region that draws its order, by what holds of each operation's value: each operation is shown once, in whatever world of a class, from what holds of the values that it waits for. -/
import Derived.Test.YtfmdpkilgnccfaaDoorF
import Derived.Still
namespace Go.Proofs.YtfmdpkilgnccfaaDoor.E
open Go.RowKit
set_option linter.unusedVariables false
set_option linter.unusedSimpArgs false
section
variable {P : Program}
/-- What is asked of an operation's run: its value, and the world behind it. -/
def opUpon (P : Program) (F : Value → World → Prop) : Result Next → Prop
  | .ok (.value u) w' => F u w'
  | .ok .skip w' => F undef w'
  | .ok (.enter f args) w' => Calls P f args w' (fun e w'' => ∃ v, e = .returned v ∧ F v w'')
  | .ok (.row row args) w' => Rows P row args w' fun v w'' => F v w''
  | _ => False
def opVal (P : Program) (o : Oper) (a : Act) (w : World) (F : Value → World → Prop) : Prop := opUpon P F ((execOp a.eval o).run P w)
theorem wp_of_opVal {o : Oper} {a : Act} {w : World} {F : Value → World → Prop} {K : Act → World → Prop} {Q : Exit → Act → World → Prop} (h : ∀ v w', F v w' → K (a.put o.dst v) w') (hh : opVal P o a w F) : o.wp P a w K Q := by
  unfold opVal at hh
  unfold Oper.wp
  generalize (execOp a.eval o).run P w = r at *
  cases r with
  | ok n w' =>
    cases n <;> simp only [opUpon] at hh <;> simp only [Oper.upon]
    case value u => exact h _ _ hh
    case skip => exact h _ _ hh
    case enter f args => exact hh.mono fun e w'' ⟨v, he, hv⟩ => by subst he; exact h _ _ hv
    case row row args => exact Rows.mono hh fun v w'' hv => h _ _ hv
  | halt x w' => simp only [opUpon] at hh
def upd (us : Nat → Value) (j : Nat) (v : Value) : Nat → Value := fun i => if i = j then v else us i
/-- The frame, each operation's value laid in its slot. -/
def lay (a : Act) : List Oper → (Nat → Value) → Nat → Act
  | [], _, _ => a
  | o :: rest, us, k => lay (a.put o.dst (us k)) rest us (k + 1)
def dstsOk : List Oper → Bool
  | [] => true
  | o :: rest => rest.all (fun p => o.dst.isNone || p.dst != o.dst) && dstsOk rest
theorem put_put (a : Act) (d : Option Tmp) (u v : Value) : (a.put d u).put d v = a.put d v := by
  cases d with
  | none => rfl
  | some t => simp [Act.put]
theorem lay_comm (d : Option Tmp) (v : Value) : ∀ (l : List Oper) (a : Act) (us : Nat → Value) (k : Nat), (∀ p ∈ l, d.isNone = true ∨ p.dst ≠ d) → (lay a l us k).put d v = lay (a.put d v) l us k
  | [], a, us, k, h => rfl
  | o :: rest, a, us, k, h => by
    rw [lay, lay, lay_comm d v rest _ us (k + 1) (fun p hp => h p (List.mem_cons_of_mem _ hp))]
    congr 1
    refine (Act.put_comm a v (us k) (x := d) (y := o.dst) ?_).symm
    intro t ht
    rcases h o List.mem_cons_self with h1 | h1
    · rw [ht] at h1; cases h1
    · rw [ht] at h1; exact h1
theorem lay_congr : ∀ (l : List Oper) (a : Act) (us us' : Nat → Value) (k : Nat), (∀ i, k ≤ i → us i = us' i) → lay a l us k = lay a l us' k
  | [], a, us, us', k, h => rfl
  | o :: rest, a, us, us', k, h => by
    rw [lay, lay, h k (Nat.le_refl _)]
    exact lay_congr rest _ us us' (k + 1) (fun i hi => h i (by omega))
theorem lay_put (v : Value) : ∀ (l : List Oper) (a : Act) (us : Nat → Value) (k j : Nat) (o : Oper), dstsOk l = true → l[j]? = some o → (lay a l us k).put o.dst v = lay a l (upd us (k + j) v) k
  | [], a, us, k, j, o, hd, hj => by simp at hj
  | p :: rest, a, us, k, 0, o, hd, hj => by
    obtain rfl : p = o := by simpa using hj
    simp only [dstsOk, Bool.and_eq_true, List.all_eq_true, Bool.or_eq_true, bne_iff_ne] at hd
    rw [lay, lay, lay_comm p.dst v rest _ us (k + 1) hd.1, put_put]
    have e : upd us (k + 0) v k = v := by simp [upd]
    rw [e]
    refine lay_congr rest _ _ _ (k + 1) (fun i hi => ?_)
    simp only [upd]
    rw [if_neg (by omega)]
  | p :: rest, a, us, k, j + 1, o, hd, hj => by
    simp only [dstsOk, Bool.and_eq_true] at hd
    rw [lay, lay, lay_put v rest _ us (k + 1) j o hd.2 (by simpa using hj)]
    have e : upd us (k + (j + 1)) v k = us k := by simp only [upd]; rw [if_neg (by omega)]
    rw [e, show k + 1 + j = k + (j + 1) by omega]
theorem put_self (a : Act) (d : Option Tmp) : a.put d ((d.bind (a.tmps[·]?)).getD undef) = a := by
  cases d with
  | none => rfl
  | some t =>
    simp only [Act.put, Option.bind_some]
    congr 1
    apply Array.ext_getElem?
    intro i
    rw [Array.getElem?_setIfInBounds]
    split
    · rename_i h
      subst h
      split
      · rename_i h2
        rw [Array.getElem?_eq_getElem h2]; rfl
      · rename_i h2
        rw [Array.getElem?_eq_none (by omega)]
    · rfl
theorem lay_self (a : Act) : ∀ (l : List Oper) (us : Nat → Value) (k : Nat), (∀ j o, l[j]? = some o → us (k + j) = (o.dst.bind (a.tmps[·]?)).getD undef) → lay a l us k = a
  | [], us, k, h => rfl
  | o :: rest, us, k, h => by
    have h0 := h 0 o rfl
    rw [lay, show us k = _ from h0, put_self]
    exact lay_self a rest us (k + 1) (fun j p hj => by rw [show k + 1 + j = k + (j + 1) by omega]; exact h (j + 1) p (by simpa using hj))
/-- What holds of the values that an operation waits for. -/
def Deps (B : Nat → Value → World → Prop) (us : Nat → Value) (w : World) : List Edge → Prop
  | [] => True
  | e :: es => B e.on (us e.on) w ∧ Deps B us w es
theorem Deps_of {B : Nat → Value → World → Prop} {us : Nat → Value} {w : World} : ∀ {es : List Edge}, (∀ e ∈ es, B e.on (us e.on) w) → Deps B us w es
  | [], _ => trivial
  | e :: es, h => ⟨h e List.mem_cons_self, Deps_of (fun x hx => h x (List.mem_cons_of_mem _ hx))⟩
/-- Operation number j, met in whatever world of the class. -/
def StepAt (P : Program) (l : List Oper) (A : (Nat → Value) → Act) (C : World → Prop) (St : World → World → Prop) (B : Nat → Value → World → Prop) (j : Nat) (o : Oper) : Prop :=
  ∀ (us : Nat → Value) (w : World) (F : Value → World → Prop), C w → Deps B us w o.after.toList → (∀ v w', C w' → St w w' → B j v w' → F v w') →
    if Region.wanted o (yielded l.toArray (A us).tmps) = true then opVal P o (A us) w F else F undef w
def Steps (P : Program) (l : List Oper) (A : (Nat → Value) → Act) (C : World → Prop) (St : World → World → Prop) (B : Nat → Value → World → Prop) : Nat → List Oper → Prop
  | _, [] => True
  | j, o :: rest => StepAt P l A C St B j o ∧ Steps P l A C St B (j + 1) rest
theorem Steps.nil {l : List Oper} {A : (Nat → Value) → Act} {C : World → Prop} {St : World → World → Prop} {B : Nat → Value → World → Prop} {j : Nat} : Steps P l A C St B j [] := trivial
theorem Steps.cons {l : List Oper} {A : (Nat → Value) → Act} {C : World → Prop} {St : World → World → Prop} {B : Nat → Value → World → Prop} {j : Nat} {o : Oper} {rest : List Oper} (h : StepAt P l A C St B j o) (hr : Steps P l A C St B (j + 1) rest) : Steps P l A C St B j (o :: rest) := ⟨h, hr⟩
theorem Steps_at {l : List Oper} {A : (Nat → Value) → Act} {C : World → Prop} {St : World → World → Prop} {B : Nat → Value → World → Prop} : ∀ {m : List Oper} {k : Nat}, Steps P l A C St B k m → ∀ j o, m[j]? = some o → StepAt P l A C St B (k + j) o
  | [], k, h, j, o, hj => by simp at hj
  | p :: rest, k, h, 0, o, hj => by
    obtain rfl : p = o := by simpa using hj
    exact h.1
  | p :: rest, k, h, j + 1, o, hj => by
    rw [show k + (j + 1) = k + 1 + j by omega]
    exact Steps_at h.2 j o (by simpa using hj)
/-- Each operation waits for earlier ones alone, and all its waits bind. -/
def waitsBack : Nat → List Oper → Bool
  | _, [] => true
  | j, o :: rest => o.after.toList.all (fun e => Region.binds .any e && decide (e.on < j)) && waitsBack (j + 1) rest
theorem waitsBack_at : ∀ {m : List Oper} {k : Nat}, waitsBack k m = true → ∀ j o, m[j]? = some o → ∀ e ∈ o.after.toList, Region.binds .any e = true ∧ e.on < k + j
  | [], k, h, j, o, hj => by simp at hj
  | p :: rest, k, h, 0, o, hj => by
    obtain rfl : p = o := by simpa using hj
    simp only [waitsBack, Bool.and_eq_true, List.all_eq_true, decide_eq_true_eq] at h
    exact fun e he => h.1 e he
  | p :: rest, k, h, j + 1, o, hj => by
    simp only [waitsBack, Bool.and_eq_true] at h
    rw [show k + (j + 1) = k + 1 + j by omega]
    exact waitsBack_at h.2 j o (by simpa using hj)
def falses (l : Array Bool) : Nat := l.toList.count false
theorem count_set : ∀ (l : List Bool) (i : Nat), l[i]? = some false → (l.set i true).count false + 1 = l.count false
  | [], i, h => by simp at h
  | b :: l, 0, h => by
    obtain rfl : b = false := by simpa using h
    simp
  | b :: l, i + 1, h => by
    have := count_set l i (by simpa using h)
    rw [List.set_cons_succ, List.count_cons, List.count_cons]
    omega
theorem count_pos : ∀ (l : List Bool) (i : Nat), l[i]? = some false → 0 < l.count false := fun l i h => by
  have := count_set l i h
  omega
theorem wpAny_inv {l : List Oper} {a : Act} {C : World → Prop} {St : World → World → Prop} {B : Nat → Value → World → Prop} {Q : Exit → Act → World → Prop}
    (hdst : dstsOk l = true) (hback : waitsBack 0 l = true) (hSt : ∀ w, St w w) (hB : ∀ i v w w', B i v w → St w w' → B i v w') (hsteps : Steps P l (fun us => lay a l us 0) C St B 0 l)
    (hQ : ∀ us w, C w → (∀ i, i < l.length → B i (us i) w) → Q .normal (lay a l us 0) w) :
    ∀ (fuel : Nat) (listed : Array Bool) (us : Nat → Value) (w : World), listed.size = l.length → falses listed ≤ fuel → C w → (∀ i, listed.getD i false = true → B i (us i) w) → wpAny P .any l.toArray Q fuel listed (lay a l us 0) w := by
  have hlast : ∀ (listed : Array Bool), listed.size = l.length → Region.ready .any l.toArray listed = [] → ∀ j, j < l.length → listed.getD j false = true := by
    intro listed hs hr j
    induction j using Nat.strongRecOn with
    | _ j ih =>
      intro hj
      cases h : listed.getD j false with
      | true => rfl
      | false =>
        have hmem : j ∈ Region.ready .any l.toArray listed := by
          refine mem_ready.2 ⟨?_, l[j], ?_, fun e he hb => ?_⟩
          · have hlt : j < listed.size := by omega
            simp only [Array.getD_eq_getD_getElem?, Array.getElem?_eq_getElem hlt, Option.getD_some] at h ⊢
            exact h
          · simp [hj]
          · have hw := (waitsBack_at hback j l[j] (by simp [hj]) e (by simpa using he)).2
            exact ih e.on (by omega) (by omega)
        rw [hr] at hmem
        cases hmem
  intro fuel
  induction fuel with
  | zero =>
    intro listed us w hs hf hC hI
    have hall : ∀ j, j < l.length → listed.getD j false = true := by
      intro j hj
      cases h : listed.getD j false with
      | true => rfl
      | false =>
        have hlt : j < listed.size := by omega
        have h2 : listed.toList[j]? = some false := by
          simp only [Array.getD_eq_getD_getElem?, Array.getElem?_eq_getElem hlt, Option.getD_some] at h
          rw [Array.getElem?_toList, Array.getElem?_eq_getElem hlt, h]
        have := count_pos _ _ h2
        unfold falses at hf
        omega
    refine ⟨?_, hQ us w hC (fun i hi => hI i (hall i hi))⟩
    refine List.eq_nil_iff_forall_not_mem.2 fun j hj => ?_
    obtain ⟨h1, o, ho, _⟩ := mem_ready.1 hj
    have hjl : j < l.length := by have := (Array.getElem?_eq_some_iff.1 ho).1; simpa using this
    have h2 := hall j hjl
    have hlt : j < listed.size := by omega
    simp only [Array.getD_eq_getD_getElem?, Array.getElem?_eq_getElem hlt, Option.getD_some] at h1 h2
    rw [h1] at h2
    cases h2
  | succ fuel ih =>
    intro listed us w hs hf hC hI
    refine ⟨fun hr => hQ us w hC (fun i hi => hI i (hlast listed hs hr i hi)), fun i hi => ?_⟩
    obtain ⟨h1, o, ho, hafter⟩ := mem_ready.1 hi
    have ho' : l[i]? = some o := by simpa using ho
    have hil : i < l.length := (List.getElem?_eq_some_iff.1 ho').1
    have hst := Steps_at hsteps i o ho'
    rw [Nat.zero_add] at hst
    have hdep : Deps B us w o.after.toList := Deps_of fun e he => by
      have hb := (waitsBack_at hback i o ho' e he).1
      exact hI e.on (hafter e (by simpa using he) hb)
    have hlt : i < listed.size := by omega
    have hcnt : falses (listed.setIfInBounds i true) ≤ fuel := by
      have h2 : listed.toList[i]? = some false := by
        simp only [Array.getD_eq_getD_getElem?, Array.getElem?_eq_getElem hlt, Option.getD_some] at h1
        rw [Array.getElem?_toList, Array.getElem?_eq_getElem hlt, h1]
      have := count_set _ _ h2
      unfold falses at hf ⊢
      rw [Array.toList_setIfInBounds]
      omega
    have hnext : ∀ v w', C w' → St w w' → B i v w' → wpAny P .any l.toArray Q fuel (listed.setIfInBounds i true) ((lay a l us 0).put o.dst v) w' := by
      intro v w' hC' hSt' hB'
      have hp := lay_put v l a us 0 i o hdst ho'
      rw [Nat.zero_add] at hp
      rw [hp]
      refine ih _ _ w' (by rw [Array.size_setIfInBounds]; exact hs) hcnt hC' fun j hj => ?_
      by_cases hji : j = i
      · subst hji
        simpa [upd] using hB'
      · have e : upd us i v j = us j := by simp [upd, hji]
        rw [e]
        refine hB j _ w w' (hI j ?_) hSt'
        rw [getD_set_ne false (Ne.symm hji)] at hj
        exact hj
    have h := hst us w (fun v w' => C w' ∧ St w w' ∧ B i v w') hC hdep (fun v w' h1 h2 h3 => ⟨h1, h2, h3⟩)
    unfold wpOp
    simp only [ho]
    split
    · rename_i hw
      rw [if_pos hw] at h
      exact .inl (wp_of_opVal (fun v w' ⟨h1, h2, h3⟩ => hnext v w' h1 h2 h3) h)
    · rename_i hw
      rw [if_neg hw] at h
      exact hnext undef w h.1 h.2.1 h.2.2
/-- The law. -/
theorem wp_region_inv {l : List Oper} {id : Nat} {Q : Exit → Act → World → Prop} {a : Act} {w : World} (C : World → Prop) (St : World → World → Prop) (B : Nat → Value → World → Prop) (A : (Nat → Value) → Act)
    (hm : P.follows .mixedOrders = true) (hdst : dstsOk l = true) (hback : waitsBack 0 l = true) (hSt : ∀ w, St w w) (hB : ∀ i v w w', B i v w → St w w' → B i v w') (hA : (fun us => lay a l us 0) = A) (hC : C w.drew)
    (hsteps : Steps P l A C St B 0 l) (hQ : ∀ us w, C w → (∀ i, i < l.length → B i (us i) w) → Q .normal (A us) w) : (Code.region id l.toArray true).wp P Q a w := by
  subst hA
  refine wp_region_any hm ?_
  obtain ⟨us, hus⟩ : ∃ us : Nat → Value, us = fun j => ((l[j]?).bind fun o => o.dst.bind (a.tmps[·]?)).getD undef := ⟨_, rfl⟩
  have hself : lay a l us 0 = a := lay_self a l us 0 fun j o hj => by rw [hus, Nat.zero_add]; simp [hj]
  have := wpAny_inv (Q := Q) hdst hback hSt hB hsteps hQ l.toArray.size (Array.replicate l.toArray.size false) us w.drew (by simp) (by unfold falses; simp) hC (fun i hi => by
    exfalso
    simp only [Array.getD_eq_getD_getElem?, Array.getElem?_replicate] at hi
    split at hi <;> simp at hi)
  rw [hself] at this
  exact this
theorem wp_region_inv_ex {l : List Oper} {id : Nat} {Q : Exit → Act → World → Prop} {a : Act} {w : World} (C : World → Prop) (St : World → World → Prop) (B : Nat → Value → World → Prop)
    (hm : P.follows .mixedOrders = true) (hdst : dstsOk l = true) (hback : waitsBack 0 l = true) (hSt : ∀ w, St w w) (hB : ∀ i v w w', B i v w → St w w' → B i v w') (hC : C w.drew)
    (h : ∃ A : (Nat → Value) → Act, (fun us => lay a l us 0) = A ∧ Steps P l A C St B 0 l ∧ ∀ us w, C w → (∀ i, i < l.length → B i (us i) w) → Q .normal (A us) w) : (Code.region id l.toArray true).wp P Q a w := by
  obtain ⟨A, hA, hs, hQ⟩ := h
  exact wp_region_inv C St B A hm hdst hback hSt hB hA hC hs hQ
end
/-- The values that a region's operations must yield; none: another tells. -/
def pureAt : List (Option Value) → Nat → Value → Prop
  | [], _, _ => True
  | none :: _, 0, _ => True
  | some c :: _, 0, v => v = c
  | _ :: r, i + 1, v => pureAt r i v
def spAt : List (Nat × (Value → World → Prop)) → Nat → Value → World → Prop
  | [], _, _, _ => True
  | (k, p) :: r, i, v, w => (i = k → p v w) ∧ spAt r i v w
def BOf (vs : List (Option Value)) (sp : List (Nat × (Value → World → Prop))) (i : Nat) (v : Value) (w : World) : Prop := pureAt vs i v ∧ spAt sp i v w
def SpBelow (p : Value → World → Prop) : Prop := ∀ v w w', p v w → Below w.heap.size w w' → p v w'
theorem spAt_below : ∀ {sp : List (Nat × (Value → World → Prop))}, (∀ p ∈ sp, SpBelow p.2) → ∀ i v w w', spAt sp i v w → Below w.heap.size w w' → spAt sp i v w'
  | [], _, _, _, _, _, _, _ => trivial
  | (k, p) :: r, h, i, v, w, w', hs, hb => ⟨fun e => h (k, p) List.mem_cons_self v w w' (hs.1 e) hb, spAt_below (fun q hq => h q (List.mem_cons_of_mem _ hq)) i v w w' hs.2 hb⟩
theorem BOf_below {vs : List (Option Value)} {sp : List (Nat × (Value → World → Prop))} (h : ∀ p ∈ sp, SpBelow p.2) : ∀ i v w w', BOf vs sp i v w → Below w.heap.size w w' → BOf vs sp i v w' :=
  fun i v w w' hB hb => ⟨hB.1, spAt_below h i v w w' hB.2 hb⟩
end Go.Proofs.YtfmdpkilgnccfaaDoor.E
