/- A range over a function whose rounds never leave the loop: the caller's law, the iterator being free to step the world by a relation of its own. -/
import Derived.RangeFuncNested
import Derived.RangeFuncBound
import Derived.RangeFuncCalls
import Derived.RangeFuncLeaves
import Derived.Shelf.Abstract
import Derived.Shelf.RegionOpen
import Derived.WalkKit
import Derived.OwnWalkIn
import Derived.TacticsInMore
import Derived.LoopNIn
import Derived.LoopIn
namespace Go.Proofs.YtfmdpkilgnccfaaDoor.E
open Go.RowKit
theorem range_iter {α : Type} {P : Program} {g : Operand} {ps : Array Tmp} {assign body : Code} {Q : Exit → Act → World → Prop} {a : Act} {w : World}
    {gf : Nat} {lb : Array Value} (hg : a.eval g = .func (.func gf) #[] lb) (eg : ∀ args W, (callFunc gf args).run P W = .ok (.enter gf args) W)
    (J : List α → World → Prop) (enc : α → World → Array Value → Prop) (S : List α → Prop) (Pf : List α → α → Prop) (Kp St : World → World → Prop) (a₁ : Array Value → Act)
    (hsz : ∀ x A vs, enc x A vs → vs.size = ps.size)
    (hJ0 : ∀ r, J [] ((w.alloc (.deferred (some []))).alloc (.loop r)))
    (hJl : ∀ s A r r', J s A → A.heap[w.heap.size + 1]? = some (.loop r) → J s (A.putObj (w.heap.size + 1) (.loop r')))
    (henc : ∀ x A vs r r', enc x A vs → A.heap[w.heap.size + 1]? = some (.loop r) → enc x (A.putObj (w.heap.size + 1) (.loop r')) vs)
    (hJS : ∀ s A B, J s A → St A B → J s B)
    (hSt : ∀ A B k o, St A B → w.heap.size ≤ k → A.heap[k]? = some o → o.isCells = false → B.heap[k]? = some o)
    (hKt : ∀ A B C, Kp A B → Kp B C → Kp A C)
    (hKl : ∀ A r r', A.heap[w.heap.size + 1]? = some (.loop r) → Kp A (A.putObj (w.heap.size + 1) (.loop r')))
    (hassign : ∀ l x A vs (Kc : Act → World → Prop), enc x A vs → Kc (a₁ vs) A → assign.wpIn (Fence.wide.inRound l) 1 P (Exit.then Kc fun _ _ _ => False) { tmps := (ps.zip vs).foldl (fun t (p, v) => t.setIfInBounds p v) a.tmps, defers := [] } A)
    (hbody : ∀ l s x A vs, Pf s x → J s A → enc x A vs → body.wpIn (Fence.wide.inRound l) 1 P (fun e _ B => e = .normal ∧ J (s ++ [x]) B ∧ Kp A B ∧ KeepsFrom w.heap.size A B) (a₁ vs) A)
    (hiter : ∀ (r : Loop) (K : List α → World → Prop), (∀ s A B, K s A → St A B → K s B) →
      (∀ s x A vs, Pf s x → K s A → enc x A vs → YieldAt Fence.wide 1 P (w.heap.size + 1) vs A fun e B => e = .returned (.bool true) ∧ K (s ++ [x]) B ∧ Kp A B) →
      K [] ((w.alloc (.deferred (some []))).alloc (.loop r)) →
      CallsIn Fence.wide 2 P gf (#[.func (.yield (w.heap.size + 1)) #[] #[]] ++ lb) ((w.alloc (.deferred (some []))).alloc (.loop r)) fun e B => (∃ v, e = .returned v) ∧ ∃ s, S s ∧ K s B)
    (hdone : ∀ s W, S s → J s W → W.heap[w.heap.size]? = some (.deferred (some [])) → Q .normal { a with defers := { target := .collected w.heap.size, args := #[] } :: a.defers } W) :
    (Code.rangeFunc g ps assign body).wpIn Fence.wide 3 P Q a w := by
  apply wpIn_rangeFunc
  intro fn hfn
  obtain ⟨rdy, hrdy⟩ : ∃ rdy : Loop, rdy = { state := .ready, pending := none, fn, tmps := a.tmps, params := ps, assign, body, defers := w.heap.size } := ⟨_, rfl⟩
  have hbp : rdy.pending = none ∧ rdy.state = .ready ∧ rdy.params = ps := by rw [hrdy]; exact ⟨rfl, rfl, rfl⟩
  have hLl : ((w.alloc (.deferred (some []))).alloc (.loop rdy)).heap[w.heap.size + 1]? = some (.loop rdy) := by
    have := World.alloc_heap_new (w.alloc (.deferred (some []))) (.loop rdy)
    rwa [World.size_alloc] at this
  have hDl : ((w.alloc (.deferred (some []))).alloc (.loop rdy)).heap[w.heap.size]? = some (.deferred (some [])) :=
    (Below.heap_alloc _ _ _ (by simp)).trans (World.alloc_heap_new w _)
  have he := run_enterLoop_outer (P := P) (w := w) fn a.tmps ps assign body
  rw [← hrdy] at he
  refine ⟨w.heap.size + 1, _, _, { target := .fn (.func gf) lb, args := #[.func (.yield (w.heap.size + 1)) #[] #[]] }, (w.alloc (.deferred (some []))).alloc (.loop rdy), gf, #[.func (.yield (w.heap.size + 1)) #[] #[]] ++ lb, (w.alloc (.deferred (some []))).alloc (.loop rdy), he, ?_, ?_, ?_, ?_, ?_⟩
  · simp only [resolve, hg]
    simp [go_sem]
  · intro f' _; trivial
  · simp [invoke, go_sem, eg]
  · intro _; decide
  · have both : ∀ s A B, (J s A ∧ A.heap[w.heap.size + 1]? = some (.loop rdy) ∧ A.heap[w.heap.size]? = some (.deferred (some []))) → St A B → (J s B ∧ B.heap[w.heap.size + 1]? = some (.loop rdy) ∧ B.heap[w.heap.size]? = some (.deferred (some []))) :=
      fun s A B h hs => ⟨hJS s A B h.1 hs, hSt A B _ _ hs (by omega) h.2.1 rfl, hSt A B _ _ hs (Nat.le_refl _) h.2.2 rfl⟩
    refine (hiter rdy (fun s A => J s A ∧ A.heap[w.heap.size + 1]? = some (.loop rdy) ∧ A.heap[w.heap.size]? = some (.deferred (some []))) both ?_ ⟨hJ0 rdy, hLl, hDl⟩).mono ?_
    · rintro s x A vs hpf ⟨hj, hl, hd⟩ hx
      refine ⟨fn, (ps.zip vs).foldl (fun t (p, v) => t.setIfInBounds p v) a.tmps, assign, body, ?_, ?_⟩
      · have hy := run_yield (P := P) (args := vs) hl (by rw [hbp.2.2]; exact hsz x A vs hx)
        rw [hrdy] at hy
        exact hy
      · refine roundIn_of_wpIn hfn (hassign _ x A vs _ hx ⟨_, run_beginRound hl hbp.2.1, ?_⟩)
        have hlt : w.heap.size + 1 < A.heap.size := (Array.getElem?_eq_some_iff.1 hl).1
        refine wpIn_mono (hbody _ s x _ vs hpf (hJl s A _ _ hj hl) (henc x A vs _ _ hx hl)) ?_
        rintro e a3 B ⟨rfl, hj3, hk3, hf3⟩
        have hl3 := hf3.same _ _ (by omega) (World.putObj_heap_same hlt) rfl
        have hd3 := hf3.same _ _ (Nat.le_refl _) ((World.putObj_heap_other (by omega)).trans hd) rfl
        have hlt3 : w.heap.size + 1 < B.heap.size := (Array.getElem?_eq_some_iff.1 hl3).1
        refine ⟨_, _, run_endRound none hl3, rfl, ⟨hJl _ B _ _ hj3 hl3, ?_, (World.putObj_heap_other (by omega)).trans hd3⟩, ?_⟩
        · rw [World.putObj_heap_same hlt3, hrdy]; rfl
        · exact hKt _ _ _ (hKl A _ _ hl) (hKt _ _ _ hk3 (hKl B _ _ hl3))
    · rintro e B ⟨⟨v, rfl⟩, s, hs, hj, hl, hd⟩
      have h := run_endLoop (P := P) hl (by rw [hbp.2.1]; decide)
      rw [hbp.1] at h
      exact ⟨none, _, h, hdone s _ hs (hJl s B _ _ hj hl) ((World.putObj_heap_other (by omega)).trans hd)⟩
end Go.Proofs.YtfmdpkilgnccfaaDoor.E
