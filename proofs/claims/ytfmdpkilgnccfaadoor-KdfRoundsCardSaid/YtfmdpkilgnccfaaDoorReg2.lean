/- The law on regions once more: an operation also knows that what waits for it has not come up: a variable that is assigned at the region's end is still as it was. -/
import Derived.Test.YtfmdpkilgnccfaaDoorReg
namespace Go.Proofs.YtfmdpkilgnccfaaDoor.E
open Go.RowKit
set_option linter.unusedVariables false
set_option linter.unusedSimpArgs false
section
variable {P : Program}
def waitsFor (l : List Oper) (i j : Nat) : Bool := match l[i]? with
  | some o => o.after.toList.any fun e => e.on == j
  | none => false
def StepAt2 (P : Program) (l : List Oper) (A : (Nat → Value) → Act) (u0 : Nat → Value) (C : World → Prop) (St : World → World → Prop) (B : Nat → Value → World → Prop) (j : Nat) (o : Oper) : Prop :=
  ∀ (us : Nat → Value) (w : World) (F : Value → World → Prop), C w → Deps B us w o.after.toList → (∀ i, waitsFor l i j = true → us i = u0 i) → (∀ v w', C w' → St w w' → B j v w' → F v w') →
    if Region.wanted o (yielded l.toArray (A us).tmps) = true then opVal P o (A us) w F else F undef w
def Steps2 (P : Program) (l : List Oper) (A : (Nat → Value) → Act) (u0 : Nat → Value) (C : World → Prop) (St : World → World → Prop) (B : Nat → Value → World → Prop) : Nat → List Oper → Prop
  | _, [] => True
  | j, o :: rest => StepAt2 P l A u0 C St B j o ∧ Steps2 P l A u0 C St B (j + 1) rest
theorem Steps2.nil {l : List Oper} {A : (Nat → Value) → Act} {u0 : Nat → Value} {C : World → Prop} {St : World → World → Prop} {B : Nat → Value → World → Prop} {j : Nat} : Steps2 P l A u0 C St B j [] := trivial
theorem Steps2.cons {l : List Oper} {A : (Nat → Value) → Act} {u0 : Nat → Value} {C : World → Prop} {St : World → World → Prop} {B : Nat → Value → World → Prop} {j : Nat} {o : Oper} {rest : List Oper} (h : StepAt2 P l A u0 C St B j o) (hr : Steps2 P l A u0 C St B (j + 1) rest) : Steps2 P l A u0 C St B j (o :: rest) := ⟨h, hr⟩
theorem Steps2_at {l : List Oper} {A : (Nat → Value) → Act} {u0 : Nat → Value} {C : World → Prop} {St : World → World → Prop} {B : Nat → Value → World → Prop} : ∀ {m : List Oper} {k : Nat}, Steps2 P l A u0 C St B k m → ∀ j o, m[j]? = some o → StepAt2 P l A u0 C St B (k + j) o
  | [], k, h, j, o, hj => by simp at hj
  | p :: rest, k, h, 0, o, hj => by
    obtain rfl : p = o := by simpa using hj
    exact h.1
  | p :: rest, k, h, j + 1, o, hj => by
    rw [show k + (j + 1) = k + 1 + j by omega]
    exact Steps2_at h.2 j o (by simpa using hj)
theorem getD_set_self {listed : Array Bool} {i : Nat} (h : i < listed.size) : (listed.setIfInBounds i true).getD i false = true := by
  simp [Array.getD_eq_getD_getElem?, h]
theorem wpAny_inv2 {l : List Oper} {a : Act} {u0 : Nat → Value} {C : World → Prop} {St : World → World → Prop} {B : Nat → Value → World → Prop} {Q : Exit → Act → World → Prop}
    (hdst : dstsOk l = true) (hback : waitsBack 0 l = true) (hSt : ∀ w, St w w) (hB : ∀ i v w w', B i v w → St w w' → B i v w') (hsteps : Steps2 P l (fun us => lay a l us 0) u0 C St B 0 l)
    (hQ : ∀ us w, C w → (∀ i, i < l.length → B i (us i) w) → Q .normal (lay a l us 0) w) :
    ∀ (fuel : Nat) (listed : Array Bool) (us : Nat → Value) (w : World), listed.size = l.length → falses listed ≤ fuel → C w → (∀ i, listed.getD i false = true → B i (us i) w) →
      (∀ i o, l[i]? = some o → listed.getD i false = true → ∀ e ∈ o.after, listed.getD e.on false = true) → (∀ i, i < l.length → listed.getD i false = false → us i = u0 i) → wpAny P .any l.toArray Q fuel listed (lay a l us 0) w := by
  have hlast : ∀ (listed : Array Bool), listed.size = l.length → Region.ready .any l.toArray listed = [] → ∀ j, j < l.length → listed.getD j false = true := by
    intro listed hs hr j
    induction j using Nat.strongRecOn with
    | _ j ih =>
      intro hj
      cases h : listed.getD j false with
      | true => rfl
      | false =>
        have hmem : j ∈ Region.ready .any l.toArray listed := by
          refine mem_ready.2 ⟨?_, l[j], ?_, fun e he hb => ?_⟩
          · have hlt : j < listed.size := by omega
            simp only [Array.getD_eq_getD_getElem?, Array.getElem?_eq_getElem hlt, Option.getD_some] at h ⊢
            exact h
          · simp [hj]
          · have hw := (waitsBack_at hback j l[j] (by simp [hj]) e (by simpa using he)).2
            exact ih e.on (by omega) (by omega)
        rw [hr] at hmem
        cases hmem
  intro fuel
  induction fuel with
  | zero =>
    intro listed us w hs hf hC hI hcl hun
    have hall : ∀ j, j < l.length → listed.getD j false = true := by
      intro j hj
      cases h : listed.getD j false with
      | true => rfl
      | false =>
        have hlt : j < listed.size := by omega
        have h2 : listed.toList[j]? = some false := by
          simp only [Array.getD_eq_getD_getElem?, Array.getElem?_eq_getElem hlt, Option.getD_some] at h
          rw [Array.getElem?_toList, Array.getElem?_eq_getElem hlt, h]
        have := count_pos _ _ h2
        unfold falses at hf
        omega
    refine ⟨?_, hQ us w hC (fun i hi => hI i (hall i hi))⟩
    refine List.eq_nil_iff_forall_not_mem.2 fun j hj => ?_
    obtain ⟨h1, o, ho, _⟩ := mem_ready.1 hj
    have hjl : j < l.length := by have := (Array.getElem?_eq_some_iff.1 ho).1; simpa using this
    have h2 := hall j hjl
    have hlt : j < listed.size := by omega
    simp only [Array.getD_eq_getD_getElem?, Array.getElem?_eq_getElem hlt, Option.getD_some] at h1 h2
    rw [h1] at h2
    cases h2
  | succ fuel ih =>
    intro listed us w hs hf hC hI hcl hun
    refine ⟨fun hr => hQ us w hC (fun i hi => hI i (hlast listed hs hr i hi)), fun i hi => ?_⟩
    obtain ⟨h1, o, ho, hafter⟩ := mem_ready.1 hi
    have ho' : l[i]? = some o := by simpa using ho
    have hil : i < l.length := (List.getElem?_eq_some_iff.1 ho').1
    have hst := Steps2_at hsteps i o ho'
    rw [Nat.zero_add] at hst
    have hdep : Deps B us w o.after.toList := Deps_of fun e he => by
      have hb := (waitsBack_at hback i o ho' e he).1
      exact hI e.on (hafter e (by simpa using he) hb)
    have hlt : i < listed.size := by omega
    have hi0 : listed.getD i false = false := by
      simp only [Array.getD_eq_getD_getElem?, Array.getElem?_eq_getElem hlt, Option.getD_some] at h1 ⊢
      exact h1
    have hlater : ∀ i', waitsFor l i' i = true → us i' = u0 i' := by
      intro i' hw
      unfold waitsFor at hw
      cases ho2 : l[i']? with
      | none => rw [ho2] at hw; cases hw
      | some o2 =>
        rw [ho2] at hw
        simp only [List.any_eq_true] at hw
        obtain ⟨e, he, hj⟩ := hw
        have he : e ∈ o2.after := by simpa using he
        refine hun i' (List.getElem?_eq_some_iff.1 ho2).1 ?_
        cases hl : listed.getD i' false with
        | false => rfl
        | true =>
          have := hcl i' o2 ho2 hl e he
          rw [beq_iff_eq.1 hj, hi0] at this
          cases this
    have hcnt : falses (listed.setIfInBounds i true) ≤ fuel := by
      have h2 : listed.toList[i]? = some false := by
        simp only [Array.getD_eq_getD_getElem?, Array.getElem?_eq_getElem hlt, Option.getD_some] at h1
        rw [Array.getElem?_toList, Array.getElem?_eq_getElem hlt, h1]
      have := count_set _ _ h2
      unfold falses at hf ⊢
      rw [Array.toList_setIfInBounds]
      omega
    have hmono : ∀ j, listed.getD j false = true → (listed.setIfInBounds i true).getD j false = true := by
      intro j hj
      by_cases hji : i = j
      · subst hji; exact getD_set_self hlt
      · rw [getD_set_ne false hji]; exact hj
    have hnext : ∀ v w', C w' → St w w' → B i v w' → wpAny P .any l.toArray Q fuel (listed.setIfInBounds i true) ((lay a l us 0).put o.dst v) w' := by
      intro v w' hC' hSt' hB'
      have hp := lay_put v l a us 0 i o hdst ho'
      rw [Nat.zero_add] at hp
      rw [hp]
      refine ih _ _ w' (by rw [Array.size_setIfInBounds]; exact hs) hcnt hC' (fun j hj => ?_) (fun j oj hoj hj e he => ?_) (fun j hjl hj => ?_)
      · by_cases hji : j = i
        · subst hji
          simpa [upd] using hB'
        · have e : upd us i v j = us j := by simp [upd, hji]
          rw [e]
          refine hB j _ w w' (hI j ?_) hSt'
          rw [getD_set_ne false (Ne.symm hji)] at hj
          exact hj
      · by_cases hji : j = i
        · subst hji
          rw [ho'] at hoj
          cases hoj
          exact hmono _ (hafter e he (waitsBack_at hback j o ho' e (by simpa using he)).1)
        · rw [getD_set_ne false (Ne.symm hji)] at hj
          exact hmono _ (hcl j oj hoj hj e he)
      · by_cases hji : j = i
        · subst hji
          rw [getD_set_self hlt] at hj
          cases hj
        · rw [getD_set_ne false (Ne.symm hji)] at hj
          have e : upd us i v j = us j := by simp [upd, hji]
          rw [e]
          exact hun j hjl hj
    have h := hst us w (fun v w' => C w' ∧ St w w' ∧ B i v w') hC hdep hlater (fun v w' h1 h2 h3 => ⟨h1, h2, h3⟩)
    unfold wpOp
    simp only [ho]
    split
    · rename_i hw
      rw [if_pos hw] at h
      exact .inl (wp_of_opVal (fun v w' ⟨h1, h2, h3⟩ => hnext v w' h1 h2 h3) h)
    · rename_i hw
      rw [if_neg hw] at h
      exact hnext undef w h.1 h.2.1 h.2.2
def before (a : Act) (l : List Oper) : Nat → Value := fun j => ((l[j]?).bind fun o => o.dst.bind (a.tmps[·]?)).getD undef
theorem wp_region_inv2 {l : List Oper} {id : Nat} {Q : Exit → Act → World → Prop} {a : Act} {w : World} (C : World → Prop) (St : World → World → Prop) (B : Nat → Value → World → Prop)
    (hm : P.follows .mixedOrders = true) (hdst : dstsOk l = true) (hback : waitsBack 0 l = true) (hSt : ∀ w, St w w) (hB : ∀ i v w w', B i v w → St w w' → B i v w') (hC : C w.drew)
    (h : ∃ A : (Nat → Value) → Act, (fun us => lay a l us 0) = A ∧ Steps2 P l A (before a l) C St B 0 l ∧ ∀ us w, C w → (∀ i, i < l.length → B i (us i) w) → Q .normal (A us) w) : (Code.region id l.toArray true).wp P Q a w := by
  obtain ⟨A, hA, hsteps, hQ⟩ := h
  subst hA
  refine wp_region_any hm ?_
  have hself : lay a l (before a l) 0 = a := lay_self a l (before a l) 0 fun j o hj => by rw [Nat.zero_add]; simp [before, hj]
  have hnone : ∀ i, (Array.replicate l.toArray.size false).getD i false = false := by
    intro i
    simp only [Array.getD_eq_getD_getElem?, Array.getElem?_replicate]
    split <;> rfl
  have := wpAny_inv2 (Q := Q) hdst hback hSt hB hsteps hQ l.toArray.size (Array.replicate l.toArray.size false) (before a l) w.drew (by simp) (by unfold falses; simp) hC (fun i hi => by rw [hnone] at hi; cases hi) (fun i o _ hi => by rw [hnone] at hi; cases hi) (fun i _ _ => rfl)
  rw [hself] at this
  exact this
end
end Go.Proofs.YtfmdpkilgnccfaaDoor.E
