/- crc.All by hand. -/
import Derived.Test.YtmepclalglmleaaC6
namespace Go.Proofs.Ytmepclalglmleaa.E
open Go.RowKit Go.Shelf Go.Proofs.YtmepclalglmleaaW.PrintWords Go.Proofs.YtmepclalglmleaaW.PrintLast Go.Proofs.YtmepclalglmleaaW.PrintMore Go.Proofs.Ytmepclalglmleaa.Pr
attribute [local go_sem] Oper.semAt_some
set_option linter.unusedVariables false
set_option linter.unusedSimpArgs false
def endOf (ps : List (List Int × Nat)) : Nat := (ps.getLast?.map (·.2)).getD 0
theorem endOf_snoc (ps : List (List Int × Nat)) (x : List Int × Nat) : endOf (ps ++ [x]) = x.2 := by simp [endOf]
theorem R_putObj {α : Type} {d : Kd α} {e : Nat} {w : World} {base : Nat} {ok : Nat → Prop} {v : Value} {xs : List α} (h : d.R e w base ok v xs) {l : Nat} {o : Obj} (hl : w.heap[l]? = some o) (ho : o.isCells = false) (o' : Obj) : d.R e (w.putObj l o') base ok v xs :=
  Kd.R_mono (Kd.R_move (Kd.R_bound h) (fun k hk => World.putObj_heap_other (fun e => by
    obtain ⟨_, _, _, q, _, cells, hc⟩ := hk
    rw [e, hl] at hc
    cases hc
    cases ho))) (fun _ hk => hk.1)
theorem R_appendIn {F : Fence} {n : Nat} {P : Program} {ops : Array Oper} {rest : List Oper} {o : Oper} {a : Act} {Q : Exit → Act → World → Prop} {α : Type} (d : Kd α) {W W2 : World} {cs : List Value} (e : TypeId) (hW2 : W2 = W.alloc (.cells cs.toArray e)) (base : Nat) (hgd : o.guard = none) (s x : Operand) (t : TypeId) (z : Value) (bytes : Nat)
    (ho : o.op = .call { callee := .builtin .append, args := #[s, x], argTypes := #[t, t] }) (ht : P.underlying t = some (.slice e)) (hinfo : (P.info? e).map (fun i => (i.zero, i.size, i.bytes)) = some (some z, d.sz, bytes)) (hz : z.cells.size = d.sz) (hs0 : 0 < d.sz) (hb0 : 0 < bytes)
    (v : Value) (xs : List α) (p : α) (ok okp : Nat → Prop) (hs : a.eval s = v) (hx : a.eval x = .slice (some ⟨W.heap.size, 0, none⟩) 1 1) (hp : d.M W base okp p cs) (hokp : ∀ k, okp k → ok k ∧ some k ≠ v.ownBlock) (hfresh : ∀ k, W.heap.size ≤ k → ok k)
    (HO : d.R e W base ok v xs) (hbase : base ≤ W.heap.size) (hl : (xs.length + 1) * bytes ≤ 140737488355328)
    (h : ∀ v1 w1, d.R e w1 base ok v1 (xs ++ [p]) → W.grownBy w1 v.ownBlock → (v1.ownBlock = v.ownBlock ∨ ∃ b, v1.ownBlock = some b ∧ W.heap.size ≤ b) → wpListIn F n P ops Q rest (a.put o.dst v1) w1) :
    wpListIn F n P ops Q (o :: rest) a W2 := by
  subst hW2
  obtain ⟨h0, inner, hown, hr⟩ := HO
  obtain ⟨i0, hi, hzz⟩ := Option.map_eq_some_iff.1 hinfo
  simp only [Prod.mk.injEq] at hzz
  obtain ⟨hz0, hz1, hz2⟩ := hzz
  have hcl := d.K_len (d.K_of_M hp)
  have hlen : xs.length + 1 ≤ 140737488355328 := Nat.le_trans (Nat.le_mul_of_pos_right _ hb0) hl
  have hml : xs.length + 1 ≤ maxLen := by simp only [maxLen]; omega
  refine wpListIn_plain hgd fun K hK' => ?_
  obtain ⟨v', w', hrun, r1, r2, _, r3⟩ := run_append_own_at (P := P) (W.alloc (.cells cs.toArray e)) base t o.type e i0 z d.sz bytes ht hi hz0 hz1 hz2 hz hs0 v xs.length inner (hown.alloc _) ⟨W.heap.size, 0, none⟩ 1 1 cs (by rw [hcl]; simp)
    (by simpa using World.news_of_block (cs := cs.toArray) (t := e) (fr := (0, 0)) (heap_alloc_new W (.cells cs.toArray e))) (d.K_one (d.K_of_M hp)) hml hl (by simp; omega)
  have hg2 : W.grownBy w' v.ownBlock := World.grownBy.trans (World.grownBy_alloc W _ _) r2
  have hat : v'.ownBlock = v.ownBlock ∨ ∃ b, v'.ownBlock = some b ∧ W.heap.size ≤ b := by
    rcases r3 with r3 | r3
    · exact .inl r3
    · exact .inr ⟨_, r3, by simp⟩
  unfold Oper.wpIn
  refine ⟨?_, ?_⟩
  · simp [Oper.about, ho, resolve, Target.leads, Sem.run_pure]
  · rw [Oper.semAt_plain F _ _ (by rw [ho]; intro c hc'; cases hc')]
    simp [execOp, ho, resolve, invoke, builtin, hs, hx, hrun, Result.andThen]
    exact hK' _ _ (h v' w' (Kd.R_appended h0 hr hp hokp hfresh r1 hg2 hat) hg2 hat)
theorem allP_length : ∀ (k : Nat) (l : List Int) (p s : Nat), (allP k l p s).length ≤ k
  | 0, _, _, _ => by simp [allP]
  | k + 1, l, p, s => by
    unfold allP
    split
    · simp
    · have := allP_length k l (p + (nextL (l.drop p)).2.2.toNat) ((s + 1) % 18446744073709551616)
      simp only [List.length_cons]; omega
/-- Between two rounds of All. -/
def allJ (w : World) (pre : List (List Int × Nat)) (W : World) : Prop := ∃ A c, W.heap[w.heap.size]? = some (.cells #[.slice A pre.length c] 48 (0, 0)) ∧ W.heap[w.heap.size + 1]? = some (.cells #[.int .i64 (endOf pre : Int)] 3 (0, 0)) ∧
  Kd.R (Kd.slice 5 (Kd.int .u8)) 22 W w.heap.size (fun k => k ≠ w.heap.size + 2 ∧ k ≠ w.heap.size + 3) (.slice A pre.length c) (pre.map (·.1)) ∧ Below w.heap.size w W ∧ w.heap.size + 4 ≤ W.heap.size
set_option maxRecDepth 100000 in
set_option maxHeartbeats 4000000 in
theorem all_any (A0 : Option Addr) (c : Nat) (xs : List Int) (s0 : Nat) (w : World) (hC : Kd.C (Kd.int .u8) w A0 xs.length xs) (hc : xs.length ≤ c) (hlen : xs.length ≤ 1000000) (hall : ∀ x ∈ xs, 0 ≤ x ∧ x ≤ 255) (hs0 : s0 < 18446744073709551616) :
    CallsIn Fence.wide 3 Try.prog 33 #[.slice A0 xs.length c, .int .u64 (s0 : Int)] w fun e w' => ∃ v0_ : Value, e = .returned (.tuple #[v0_, .int .i64 (endOf (allP (xs.length + 1) xs 0 s0) : Int)]) ∧
      Kd.R (Kd.slice 5 (Kd.int .u8)) 22 w' w.heap.size (fun _ => True) v0_ ((allP (xs.length + 1) xs 0 s0).map (·.1)) ∧ Below w.heap.size w w' := by
  refine callsIn_of_wp_marks Try.func33 rfl trivial ?_ rfl
  simp only [Try.ntmps33, List.size_toArray, List.length_cons, List.length_nil, Nat.reduceAdd, Nat.reduceSub, Array.replicate_succ, Array.replicate_zero, List.push_toArray, List.append_toArray, List.nil_append, List.cons_append]
  gi_wp2
  refine ⟨trivial, (callsIn_wide.2 (each47 A0 xs.length c s0 _)).mono ?_⟩
  rintro e w1 ⟨rfl, hw1⟩
  have hsz : w1.heap.size = w.heap.size + 4 := by rw [hw1]; simp
  have hB1 : Below w.heap.size w w1 := by
    rw [hw1]
    exact ((((Below.refl _ w).alloc (Nat.le_refl _) _).alloc (by simp only [World.size_alloc]; omega) _).alloc (by simp only [World.size_alloc]; omega) _).alloc (by simp only [World.size_alloc]; omega) _
  have hob : w1.heap[w.heap.size]? = some (.cells #[.slice none 0 0] 48 (0, 0)) := by
    rw [hw1, Below.heap_alloc _ _ _ (by simp only [World.size_alloc]; omega), Below.heap_alloc _ _ _ (by simp only [World.size_alloc]; omega), Below.heap_alloc _ _ _ (by simp only [World.size_alloc]; omega)]
    exact heap_alloc_new w _
  have heb : w1.heap[w.heap.size + 1]? = some (.cells #[.int .i64 0] 3 (0, 0)) := by
    rw [hw1, Below.heap_alloc _ _ _ (by simp only [World.size_alloc]; omega), Below.heap_alloc _ _ _ (by simp only [World.size_alloc]; omega)]
    simpa using heap_alloc_new (w.alloc (.cells #[.slice none 0 0] 48)) (.cells #[.int .i64 0] 3)
  have hqb : w1.heap[w.heap.size + 2]? = some (.cells #[.slice A0 xs.length c] 22 (0, 0)) := by
    rw [hw1, Below.heap_alloc _ _ _ (by simp only [World.size_alloc]; omega)]
    simpa using heap_alloc_new ((w.alloc (.cells #[.slice none 0 0] 48)).alloc (.cells #[.int .i64 0] 3)) (.cells #[.slice A0 xs.length c] 22)
  have hqs : w1.heap[w.heap.size + 3]? = some (.cells #[.int .u64 (s0 : Int)] 35 (0, 0)) := by
    rw [hw1]
    simpa using heap_alloc_new (((w.alloc (.cells #[.slice none 0 0] 48)).alloc (.cells #[.int .i64 0] 3)).alloc (.cells #[.slice A0 xs.length c] 22)) (.cells #[.int .u64 (s0 : Int)] 35)
  simp only [World.size_alloc]
  have HB1 := Aside0.mk hB1
  have HOB := Aside0.mk hob
  have HEB := Aside0.mk heb
  have HQB := Aside0.mk hqb
  have HQS := Aside0.mk hqs
  have HC := Aside0.mk hC
  have HALL := Aside0.mk hall
  clear hw1 hB1 hob heb hqb hqs hC hall
  gi_wp2
  refine range_iter (gf := 53) (lb := #[.pointer (some ⟨w.heap.size + 2, 0, none⟩), .pointer (some ⟨w.heap.size + 3, 0, none⟩)]) (by simp [go_sem]) (enters_of Try.func53 (by kernel_rfl) rfl) (allJ w) (enc w.heap.size (w.heap.size + 2) (w.heap.size + 3)) (fun s => s = allP (xs.length + 1) xs 0 s0)
    (fun s x => s ++ [x] <+: allP (xs.length + 1) xs 0 s0) (Kp w.heap.size (w.heap.size + 2) (w.heap.size + 3)) (St (w.heap.size + 3))
    (fun vs => { tmps := #[.slice A0 xs.length c, .int .u64 (s0 : Int), undef, undef, .slice none 0 0, .int .i64 0, .pointer (some ⟨w.heap.size, 0, none⟩), .pointer (some ⟨w.heap.size + 1, 0, none⟩), vs.getD 0 undef, vs.getD 1 undef, .slice A0 xs.length c, .int .u64 (s0 : Int), .func (.func 53) #[] #[.pointer (some ⟨w.heap.size + 2, 0, none⟩), .pointer (some ⟨w.heap.size + 3, 0, none⟩)], vs.getD 0 undef, vs.getD 1 undef, undef, undef, undef, undef, undef, undef, undef], defers := [] }) ?hsz ?hJ0 ?hJl ?henc ?hJS ?hSt ?hKt ?hKl ?hassign ?hbody ?hiter ?hdone
  case hsz => rintro x A vs ⟨A', c', rfl, _⟩; rfl
  case hJ0 =>
    intro r
    refine ⟨none, 0, ?_, ?_, Kd.R_nil _ _ _ _ _, ?_, ?_⟩
    · exact (Below.heap_alloc _ _ _ (by simp only [World.size_alloc]; omega)).trans ((Below.heap_alloc _ _ _ (by omega)).trans HOB.out)
    · exact (Below.heap_alloc _ _ _ (by simp only [World.size_alloc]; omega)).trans ((Below.heap_alloc _ _ _ (by omega)).trans HEB.out)
    · exact (HB1.out.alloc (by omega) _).alloc (by simp only [World.size_alloc]; omega) _
    · simp only [World.size_alloc]; omega
  case hJl =>
    rintro s A r r' ⟨A', c', h1, h2, h3, h4, h5⟩ hl
    refine ⟨A', c', (World.putObj_heap_other (by omega)).trans h1, (World.putObj_heap_other (by omega)).trans h2, ?_, ?_, by simpa using h5⟩
    · exact R_putObj h3 hl rfl _
    · exact h4.grown (grownBy_putObj' _ _ _) h4.size (fun k e => by cases e; omega)
  case henc =>
    rintro x A vs r r' ⟨A', c', rfl, h⟩ hl
    exact ⟨A', c', rfl, R_putObj h hl rfl _⟩
  case hJS =>
    rintro s A B ⟨A', c', h1, h2, h3, h4, h5⟩ ⟨row, hg, hr⟩
    have hne : ∀ k, k < A.heap.size → k ≠ w.heap.size + 3 → B.heap[k]? = A.heap[k]? := fun k hk hk3 => hg.block k hk (fun e => hk3 (hr k e.symm))
    refine ⟨A', c', (hne _ (by omega) (by omega)).trans h1, (hne _ (by omega) (by omega)).trans h2, ?_, ?_, Nat.le_trans h5 hg.size⟩
    · exact Kd.R_step h3 (fun k hk hlt => hne k hlt hk.2)
    · exact h4.grown hg h4.size (fun k e => by rw [hr k e]; omega)
  case hSt =>
    rintro A B k o ⟨row, hg, hr⟩ hk ho hc
    refine (hg.block k (Array.getElem?_eq_some_iff.1 ho).1 (fun e => ?_)).trans ho
    have := hr k e.symm
    omega
  case hKt => exact fun A B C h k => ⟨h.1.trans k.1, k.2.1.trans h.2.1, k.2.2.trans h.2.2⟩
  case hKl =>
    intro A r r' hl
    exact ⟨(Below.refl _ A).grown (grownBy_putObj' _ _ _) (by have := (Array.getElem?_eq_some_iff.1 hl).1; omega) (fun k e => by cases e; omega), World.putObj_heap_other (by omega), World.putObj_heap_other (by omega)⟩
  case hassign =>
    rintro l x A vs Kc ⟨A', c', rfl, _⟩ hK
    gi_wp2
    exact hK
  case hbody =>
    rintro l s x A vs hpf ⟨A', c', h1, h2, h3, h4, h5⟩ ⟨A2, c2, rfl, h6⟩
    have hcb : A.cell? ⟨w.heap.size, 0, none⟩ = some (.slice A' s.length c') := blk_cell h1 0
    have hfb : A.frozen? ⟨w.heap.size, 0, none⟩ = false := blk_frozen h1 0
    have hce : A.cell? ⟨w.heap.size + 1, 0, none⟩ = some (.int .i64 (endOf s : Int)) := blk_cell h2 0
    have hfe : A.frozen? ⟨w.heap.size + 1, 0, none⟩ = false := blk_frozen h2 0
    have hne0 := Kd.R_ne h3 h1 (by decide)
    have hne1 := Kd.R_ne h3 h2 (by decide)
    have h6b := Kd.R_bound h6
    have hokp : ∀ k, ((k ≠ w.heap.size + 2 ∧ k ≠ w.heap.size + 3) ∧ w.heap.size ≤ k ∧ k < A.heap.size ∧ ∃ q, q ∈ 5 :: (Kd.int .u8).E ∧ ∃ cells, A.heap[k]? = some (.cells cells q (0, 0))) → (k ≠ w.heap.size + 2 ∧ k ≠ w.heap.size + 3) ∧ some k ≠ (Value.slice A' s.length c').ownBlock := by
      rintro k ⟨hk, _, _, q, hq, cells, hcells⟩
      refine ⟨hk, ?_⟩
      have hq5 : q = 5 := by simpa [Kd.int, Kd.scalar] using hq
      subst hq5
      exact Kd.R_ne h3 hcells (by decide)
    have hlen2 : s.length + 1 ≤ xs.length + 1 := by
      have := (List.IsPrefix.length_le hpf)
      have h9 := allP_length (xs.length + 1) xs 0 s0
      rw [List.length_append, List.length_singleton] at this
      omega
    have H3 := Aside0.mk h3
    have H6 := Aside0.mk h6b
    have HOKP := Aside0.mk hokp
    have HPF := Aside0.mk hpf
    have H1 := Aside0.mk h1
    have H2 := Aside0.mk h2
    have H4 := Aside0.mk h4
    clear h3 h6 h6b hokp hpf h1 h2 h4
    simp only [show ∀ (p q : Value), (#[p, q] : Array Value).getD 0 undef = p from fun _ _ => rfl, show ∀ (p q : Value), (#[p, q] : Array Value).getD 1 undef = q from fun _ _ => rfl]
    gi_wp2_with (gi_at_builtin; refine R_appendIn (Kd.slice 5 (Kd.int .u8)) (W := A) (v := .slice A' s.length c') (xs := s.map (·.1)) (p := x.1) (cs := [.slice A2 x.1.length c2]) 22 rfl w.heap.size rfl (.tmp 15) (.tmp 17) 48 (.slice none 0 0) 24 rfl Try.underlying48 (by kernel_rfl) rfl (by decide) (by decide) (ok := fun k => k ≠ w.heap.size + 2 ∧ k ≠ w.heap.size + 3) _ rfl rfl ⟨_, rfl, H6.out⟩ HOKP.out (fun k hk => by omega) H3.out (by omega) (by rw [List.length_map]; omega) ?_; intro v1 w2 hR hg hat; obtain ⟨A3, c3, rfl⟩ := Kd.R_slice hR; rw [show (s.map (·.1) ++ [x.1]).length = s.length + 1 by simp] at hR hat ⊢; have h1' := (hg.block _ (Array.getElem?_eq_some_iff.1 H1.out).1 hne0).trans H1.out; have h2' := (hg.block _ (Array.getElem?_eq_some_iff.1 H2.out).1 hne1).trans H2.out; have hcb2 := blk_cell h1' 0; have hfb2 := blk_frozen h1' 0; have hce2 := blk_cell h2' 0; have hfe2 := blk_frozen h2' 0; have HR := Aside0.mk hR; have HG := Aside0.mk hg; have HAT := Aside0.mk hat; have H1' := Aside0.mk h1'; have H2' := Aside0.mk h2'; clear hR hg hat h1' h2')
    have hbase3 : ∀ k, (Value.slice A' s.length c').ownBlock = some k → w.heap.size ≤ k := fun k hk => ((Kd.R_bound H3.out).1 k hk).2.1
    have hown3 : ∀ k o, (Value.slice A' s.length c').ownBlock = some k → A.heap[k]? = some o → o.isCells = true := by
      intro k o hk ho
      obtain ⟨_, _, _, q, _, cells, hc⟩ := (Kd.R_bound H3.out).1 k hk
      rw [hc] at ho
      cases ho
      rfl
    have hN2 : some (w.heap.size + 2) ≠ (Value.slice A' s.length c').ownBlock := fun e => (H3.out.1 _ e.symm).1 rfl
    have hN3 : some (w.heap.size + 3) ≠ (Value.slice A' s.length c').ownBlock := fun e => (H3.out.1 _ e.symm).2 rfl
    have hlast : endOf (s ++ [x]) = x.2 := endOf_snoc s x
    have hsl : (s ++ [x]).length = s.length + 1 := by simp
    have far : ∀ k, k ≠ w.heap.size → k ≠ w.heap.size + 1 → ((w2.setCell ⟨w.heap.size, 0, none⟩ (.slice A3 (s.length + 1) c3)).setCell ⟨w.heap.size + 1, 0, none⟩ (.int .i64 (x.2 : Int))).heap[k]? = w2.heap[k]? :=
      fun k ha hb => (Below.heap_setCell _ ⟨w.heap.size + 1, 0, none⟩ _ k hb).trans (Below.heap_setCell _ ⟨w.heap.size, 0, none⟩ _ k ha)
    have hset1 := blk_far (blk_set H1'.out 0 (.slice A3 (s.length + 1) c3)) (p := ⟨w.heap.size + 1, 0, none⟩) (by simp) (.int .i64 (x.2 : Int))
    have hset2 := blk_set (blk_far H2'.out (p := ⟨w.heap.size, 0, none⟩) (by simp) (.slice A3 (s.length + 1) c3)) 0 (.int .i64 (x.2 : Int))
    have hszB : w2.heap.size ≤ ((w2.setCell ⟨w.heap.size, 0, none⟩ (.slice A3 (s.length + 1) c3)).setCell ⟨w.heap.size + 1, 0, none⟩ (.int .i64 (x.2 : Int))).heap.size := by
      have := ((Below.refl 0 w2).setCell (p := ⟨w.heap.size, 0, none⟩) (Nat.zero_le _) (.slice A3 (s.length + 1) c3)).setCell (p := ⟨w.heap.size + 1, 0, none⟩) (Nat.zero_le _) (.int .i64 (x.2 : Int))
      exact this.size
    refine ⟨⟨A3, c3, ?_, ?_, ?_, ?_, ?_⟩, ⟨?_, ?_, ?_⟩, ⟨?_, ?_⟩⟩
    · rw [hsl]; simpa using hset1
    · rw [hlast]; simpa using hset2
    · rw [hsl, List.map_append]
      exact Kd.R_set (Kd.R_set HR.out H1'.out (by simp [Kd.slice, Kd.int, Kd.scalar]) 0 _) (blk_far H2'.out (p := ⟨w.heap.size, 0, none⟩) (by simp) (.slice A3 (s.length + 1) c3)) (by simp [Kd.slice, Kd.int, Kd.scalar]) 0 _
    · exact ((H4.out.grown HG.out H4.out.size hbase3).setCell (p := ⟨w.heap.size, 0, none⟩) (Nat.le_refl _) _).setCell (p := ⟨w.heap.size + 1, 0, none⟩) (Nat.le_succ _) _
    · exact Nat.le_trans (Nat.le_trans h5 HG.out.size) hszB
    · exact (((Below.refl _ A).grown HG.out H4.out.size hbase3).setCell (p := ⟨w.heap.size, 0, none⟩) (Nat.le_refl _) _).setCell (p := ⟨w.heap.size + 1, 0, none⟩) (Nat.le_succ _) _
    · exact (far _ (by omega) (by omega)).trans (HG.out.block _ (by omega) hN2)
    · exact (far _ (by omega) (by omega)).trans (HG.out.block _ (by omega) hN3)
    · exact Nat.le_trans HG.out.size hszB
    · intro k o hk ho hc
      refine (far k (by omega) (by omega)).trans ((HG.out.block k (Array.getElem?_eq_some_iff.1 ho).1 (fun e => ?_)).trans ho)
      rw [hown3 k o e.symm ho] at hc
      cases hc
  case hiter =>
    intro r K hKS hY h0
    rcases A0 with _ | ad
    · obtain rfl : xs = [] := by
        obtain ⟨_, _, h⟩ := HC.out
        rcases Nat.eq_zero_or_pos xs.length with h0 | h0
        · exact List.eq_nil_of_length_eq_zero h0
        · obtain ⟨_, h1, _⟩ := h h0
          cases h1
      refine each53n (w1.heap.size + 1) (w.heap.size + 2) (w.heap.size + 3) c s0 w K hKS _ h0 ?_ ?_
      · exact (Below.heap_alloc _ _ _ (by simp only [World.size_alloc]; omega)).trans ((Below.heap_alloc _ _ _ (by omega)).trans HQB.out)
      · exact (Below.heap_alloc _ _ _ (by simp only [World.size_alloc]; omega)).trans ((Below.heap_alloc _ _ _ (by omega)).trans HQS.out)
    refine each53 (w1.heap.size + 1) (w.heap.size + 2) (w.heap.size + 3) ad c xs s0 w HC.out hc (by omega) HALL.out hs0 (by omega) (by omega) (by omega) K hKS hY _ h0 ?_ ?_ ?_
    · exact (HB1.out.alloc (by omega) _).alloc (by simp only [World.size_alloc]; omega) _
    · exact (Below.heap_alloc _ _ _ (by simp only [World.size_alloc]; omega)).trans ((Below.heap_alloc _ _ _ (by omega)).trans HQB.out)
    · exact (Below.heap_alloc _ _ _ (by simp only [World.size_alloc]; omega)).trans ((Below.heap_alloc _ _ _ (by omega)).trans HQS.out)
  case hdone =>
    rintro s W rfl ⟨A', c', h1, h2, h3, h4, h5⟩ hD
    have hcb : W.cell? ⟨w.heap.size, 0, none⟩ = some (.slice A' (allP (xs.length + 1) xs 0 s0).length c') := blk_cell h1 0
    have hce : W.cell? ⟨w.heap.size + 1, 0, none⟩ = some (.int .i64 (endOf (allP (xs.length + 1) xs 0 s0) : Int)) := blk_cell h2 0
    have H3 := Aside0.mk h3
    have H4 := Aside0.mk h4
    have HD := Aside0.mk hD
    clear h1 h2 h3 h4 hD
    gi_wp2
    gi_region
    gi_wp2
    have hD2 : W.drew.heap[w1.heap.size]? = some (.deferred (some [])) := HD.out
    refine ⟨by simp, .inl ⟨_, _, rfl, run_takeDeferred hD2, ?_⟩⟩
    refine ⟨_, results_tmp2 rfl _ _ _, _, rfl, ?_, ?_⟩
    · exact Kd.R_mono (R_putObj (Kd.R_drew H3.out) hD2 rfl _) (fun _ _ => trivial)
    · exact H4.out.drew.grown (grownBy_putObj' _ _ _) (Nat.le_of_lt (by have := HB1.out.size; have : W.drew.heap.size = W.heap.size := rfl; omega)) (fun k e => by cases e; omega)
def crc_All.f (l0 : List Int) (a1 : Int) : Option (List (List Int) × Int) := if l0.length ≤ 1000000 ∧ (∀ x ∈ l0, 0 ≤ x ∧ x ≤ 255) ∧ 0 ≤ a1 ∧ a1 < 18446744073709551616 then some ((allP (l0.length + 1) l0 0 a1.toNat).map (·.1), (endOf (allP (l0.length + 1) l0 0 a1.toNat) : Int)) else none
theorem crc_All.calls (A0 : Option Addr) (c0 : Nat) (l0 : List Int) (a1 : Int) (r1 : List (List Int)) (r2 : Int) (w : World) (hr0 : Kd.C (Kd.int .u8) w A0 l0.length l0) (hc0 : l0.length ≤ c0) (h : crc_All.f l0 a1 = some (r1, r2)) :
    Calls Try.prog 33 #[.slice A0 l0.length c0, .int .u64 a1] w fun e w' => ∃ v0_ : Value, e = .returned (.tuple #[v0_, .int .i64 r2]) ∧ Kd.R (Kd.slice 5 (Kd.int .u8)) 22 w' w.heap.size (fun _ => True) v0_ r1 ∧ Below w.heap.size w w' := by
  unfold crc_All.f at h
  split at h
  · rename_i h2
    obtain ⟨hl, hall, h0, h1⟩ := h2
    injection h with h
    obtain ⟨rfl, rfl⟩ := Prod.mk.inj h
    have := callsIn_wide.1 (all_any A0 c0 l0 a1.toNat w hr0 hc0 hl hall (by omega))
    rwa [Int.toNat_of_nonneg h0] at this
  · exact absurd h (by simp)
end Go.Proofs.Ytmepclalglmleaa.E
