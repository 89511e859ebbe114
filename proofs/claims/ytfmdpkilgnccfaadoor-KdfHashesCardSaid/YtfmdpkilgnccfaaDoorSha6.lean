/- sha.Sum by hand. -/
import Derived.Test.YtfmdpkilgnccfaaDoorSha5
namespace Go.Proofs.YtfmdpkilgnccfaaDoor.E
open Go.RowKit Go.Shelf Go.Proofs.YtfmdpkilgnccfaaDoorW.PrintWords Go.Proofs.YtfmdpkilgnccfaaDoorW.PrintLast Go.Proofs.YtfmdpkilgnccfaaDoorW.PrintMore Go.Proofs.YtfmdpkilgnccfaaDoor.Pr
attribute [local go_sem] Oper.semAt_some
set_option linter.unusedVariables false
set_option linter.unusedSimpArgs false
/-- A whole row read, a whole row stored: within a fence. -/
theorem loadRowIn {F : Fence} {n : Nat} {P : Program} {ops : Array Oper} {rest : List Oper} {o : Oper} {a : Act} {w : World} {Q : Exit → Act → World → Prop} (hgd : o.guard = none) (ty : TypeId) (x : Operand) (ho : o.op = .load ty x)
    (g : Nat) (hx : a.eval x = .pointer (some ⟨g, 0, none⟩)) (t : TypeId) (cs : Array Value) (fr : Nat × Nat) (d : TypeDesc) (hg : w.heap[g]? = some (.cells cs t fr))
    (hu : P.underlying ty = some d) (hd : (match d with | .struct _ | .array _ _ => true | _ => false) = true) (hi : (P.info? ty).map (·.size) = some cs.size)
    (h : wpListIn F n P ops Q rest (a.put o.dst (.agg cs)) w) : wpListIn F n P ops Q (o :: rest) a w := by
  refine wpListIn_plain hgd fun K hK' => ?_
  unfold Oper.wpIn
  refine ⟨by simp [Oper.about, ho], ?_⟩
  rw [Oper.semAt_plain F _ _ (by rw [ho]; intro c hc'; cases hc')]
  simp only [execOp, ho, hx, Instr.loadAt, Instr.sureAddr, Sem.run_bind, Sem.run_pure, Result.andThen_ok, run_loadVar_row w g t ty cs fr d hg hu hd hi]
  exact hK' _ _ h
theorem storeRowIn {F : Fence} {n : Nat} {P : Program} {ops : Array Oper} {rest : List Oper} {o : Oper} {a : Act} {w : World} {Q : Exit → Act → World → Prop} (hgd : o.guard = none) (ty : TypeId) (x y : Operand) (ho : o.op = .store ty x y)
    (g : Nat) (cells : Array Value) (hx : a.eval x = .pointer (some ⟨g, 0, none⟩)) (hy : a.eval y = .agg cells)
    (t : TypeId) (old : Array Value) (hg : w.heap[g]? = some (.cells old t (0, 0))) (hi : (P.info? ty).map (·.size) = some cells.size)
    (hold : old.size = cells.size) (h1 : cells.all (·.oneCell') = true)
    (h : wpListIn F n P ops Q rest (a.put o.dst undef) (w.setRow g cells)) : wpListIn F n P ops Q (o :: rest) a w := by
  refine wpListIn_plain hgd fun K hK' => ?_
  unfold Oper.wpIn
  refine ⟨by simp [Oper.about, ho], ?_⟩
  rw [Oper.semAt_plain F _ _ (by rw [ho]; intro c hc'; cases hc')]
  simp only [execOp, ho, hx, hy, Instr.storeAt, Instr.sureAddr, Sem.run_bind, Sem.run_pure, Result.andThen_ok, run_storeVar_row w g t ty old cells hg hi hold h1]
  exact hK' _ _ h
theorem vals_size (s : H8) : s.vals.toArray.size = 8 := rfl
theorem vals_one (s : H8) : (s.vals.toArray.all fun x => x.oneCell') = true := u32s_one s.nats
theorem vals_size8 (s : H8) : (Tryd.prog.info? 25).map (·.size) = some s.vals.toArray.size := by rw [vals_size]; exact size8
theorem vals_sizes (s z : H8) : s.vals.toArray.size = z.vals.toArray.size := by rw [vals_size, vals_size]
theorem run_index_vals (s : H8) (k : Nat) (hk : k < 8) (w : World) :
    (Instr.index 25 (.agg s.vals.toArray) (.int .i64 (k : Int))).run Tryd.prog w = .ok (.int .u32 ((s.nats.getD k 0 : Nat) : Int)) w := by
  have hu := Tryd.underlying25
  have h1 : s.vals[k]? = some (.int .u32 ((s.nats.getD k 0 : Nat) : Int)) := by
    have hc : k = 0 ∨ k = 1 ∨ k = 2 ∨ k = 3 ∨ k = 4 ∨ k = 5 ∨ k = 6 ∨ k = 7 := by omega
    rcases hc with rfl | rfl | rfl | rfl | rfl | rfl | rfl | rfl <;> rfl
  have hw : (0 : Int) ≤ (k : Int) ∧ (k : Int) < 8 := by omega
  simp [Instr.index, run_underlying hu, h1, hk, asIntOf, part, hw, Result.andThen, Tryd.sizeOf24, Tryd.isAgg24, go_sem]
def JS (w : World) (hbk : Nat) (A3 : Option Addr) (c3 : Nat) (ys : List Int) (s : List (List Int)) (W : World) : Prop :=
  W.heap[hbk]? = some (.cells (s.foldl blockN ivH).vals.toArray 25 (0, 0)) ∧ Kd.R (Kd.int .u8) 5 W w.heap.size (fun k => k ≠ hbk) (.slice A3 ys.length c3) ys ∧ Below w.heap.size w W
set_option maxRecDepth 100000 in
set_option maxHeartbeats 8000000 in
theorem sum_any (A0 : Option Addr) (c0 : Nat) (l0 : List (List Int)) (w : World) (hr0 : Kd.C (Kd.slice 5 (Kd.int .u8)) w A0 l0.length l0) (hc0 : l0.length ≤ c0) (hlen : l0.flatten.length ≤ 1000000) (hall : ∀ x ∈ l0.flatten, 0 ≤ x ∧ x ≤ 255) (hG : RootsIn w) :
    Calls Tryd.prog 22 #[.slice A0 l0.length c0] w fun e w' => ∃ v0_ : Value, e = .returned v0_ ∧ Kd.R (Kd.int .u8) 5 w' w.heap.size (fun _ => True) v0_ (shaL l0.flatten) ∧ Below w.heap.size w w' := by
  have hcat := fun (W : World) (hW : Below w.heap.size w W) => slices_Concat_byte_byte.calls A0 c0 l0 l0.flatten W (Kd.C_below hr0 hW) hc0 (by unfold slices_Concat_byte_byte.f; rw [if_pos (by omega)])
  obtain ⟨xs, hxs⟩ : ∃ xs, xs = l0.flatten := ⟨_, rfl⟩
  rw [← hxs] at hlen hall hcat ⊢
  have hpad := fun (W : World) => sha_Pad.calls 9 (xs.length : Int) (padL xs.length) W (pad_some xs.length (by omega))
  have HCAT := Aside0.mk hcat
  have HPAD := Aside0.mk hpad
  have HALL := Aside0.mk hall
  have HG := Aside0.mk hG
  have hmx := Kd.C_max hr0
  clear hcat hpad hall hG hr0 hxs
  have hpl := padL_len xs.length
  have hpl2 : (padL xs.length).length ≤ 72 := by omega
  have HPL := Aside0.mk hpl
  clear hpl
  refine (callsIn_wide (n := 3)).1 (callsIn_of_wp_marks Tryd.func22 rfl trivial ?_ rfl)
  simp only [Tryd.ntmps22, List.size_toArray, List.length_cons, List.length_nil, Nat.reduceAdd, Nat.reduceSub, Array.replicate_succ, Array.replicate_zero, List.push_toArray, List.append_toArray, List.nil_append, List.cons_append]
  refine wpIn_wide.2 ?_
  go_wp2_with (go_at_call 45; ((with_reducible refine (HCAT.out _ ?hB1).mono ?_)))
  case hB1 => exact (Below.refl _ w).alloc (Nat.le_refl _) _
  rintro e w1 ⟨v1, rfl, hR1, hb1⟩
  obtain ⟨A1, c1, rfl⟩ := Kd.R_slice hR1
  have hone : w1.heap[w.heap.size]? = some (.cells ivH.vals.toArray 25 (0, 0)) := (hb1.block _ (by simp only [World.size_alloc]; omega)).trans (heap_alloc_new w _)
  have HB1 := Aside0.mk (((Below.refl _ w).alloc (Nat.le_refl _) _).trans (hb1.mono (by simp)))
  have HR1 := Aside0.mk (Kd.R_lower hR1 (by simp) : Kd.R (Kd.int .u8) 5 w1 w.heap.size (fun _ => True) (.slice A1 xs.length c1) xs)
  have HH1 := Aside0.mk hone
  clear hR1 hb1 hone
  go_wp2_with (go_at_call 24; ((with_reducible refine (HPAD.out _).mono ?_)))
  rintro e w2 ⟨v2, rfl, hR2, hb2⟩
  obtain ⟨A2, c2, rfl, hl2, hC2⟩ := Kd.R_reads hR2
  have HB2 := Aside0.mk (below_step HB1.out hb2)
  have HR12 := Aside0.mk (Kd.R_mono (ok' := fun k => k ≠ w.heap.size) (Kd.R_types (Kd.R_below HR1.out hb2) ((hb2.block _ (Array.getElem?_eq_some_iff.1 HH1.out).1).trans HH1.out) (by simp [Kd.int, Kd.scalar])) (fun _ hk => hk.2))
  have HH2 := Aside0.mk ((hb2.block _ (Array.getElem?_eq_some_iff.1 HH1.out).1).trans HH1.out)
  have HC2 := Aside0.mk hC2
  clear hR2 hb2 hC2 hl2 HH1 HR1 HB1
  go_wp2_with (at_builtin; refine Kd.R_append_rows (Kd.int .u8) (w0 := w) w.heap.size rfl (.tmp 12) (.tmp 16) 22 5 (.int .u8 0) 1 rfl Tryd.underlying22 info5b rfl (by decide) (by omega) (.slice A1 xs.length c1) xs (padL xs.length) _ _ _ (fun k => k ≠ w.heap.size) (fun _ => False) rfl rfl HR12.out HC2.out (fun _ _ h => h) (fun _ h => h.elim) (fun k hk => by have := HB2.out.size; have := (Array.getElem?_eq_some_iff.1 HH2.out).1; omega) HB2.out HB2.out.size (by omega) ?_)
  intro v3 w3 hR3 hb3 hg3 _
  have hne : ∀ k, (Value.slice A1 xs.length c1).ownBlock = some k → k ≠ w.heap.size := HR12.out.1
  have HH3 := Aside0.mk ((hg3.block _ (Array.getElem?_eq_some_iff.1 HH2.out).1 (fun e => hne _ e.symm rfl)).trans HH2.out)
  obtain ⟨ys, hys⟩ : ∃ ys, ys = xs ++ padL xs.length := ⟨_, rfl⟩
  have hyl : ys.length = 64 * blocks xs.length := by rw [hys, List.length_append, HPL.out]; exact blocks_eq _
  have hyb : ∀ x ∈ ys, 0 ≤ x ∧ x ≤ 255 := by
    intro x hx
    rw [hys] at hx
    rcases List.mem_append.1 hx with h | h
    · exact HALL.out x h
    · exact padL_bytes _ x h
  have hyl2 : ys.length ≤ 1000072 := by rw [hys, List.length_append]; omega
  rw [← hys] at hR3
  have hsha : shaL xs = digL (runB ivH ys (blocks xs.length)).nats := by rw [hys]; rfl
  obtain ⟨m, hm⟩ : ∃ m, m = blocks xs.length := ⟨_, rfl⟩
  rw [← hm] at hyl hsha
  obtain ⟨A3, c3, rfl⟩ := Kd.R_slice hR3
  have HR3 := Aside0.mk hR3
  have HB3 := Aside0.mk hb3
  have HYL := Aside0.mk hyl
  have HYB := Aside0.mk hyb
  have HSHA := Aside0.mk hsha
  clear hR3 hb3 hg3 hne HR12 HH2 HB2 HC2 hys hyl hyb hsha hm HPL HALL
  go_wp2_with (go_at_call 46; ((with_reducible refine (chunk46 A3 ys.length c3 w3).mono ?_)))
  rintro e w4 ⟨rfl, rfl⟩
  go_wp2
  refine (wpIn_wide (n := 3)).1 ?_
  obtain ⟨W4, hW4⟩ : ∃ W4, W4 = (w3.alloc (.cells #[.slice A3 ys.length c3] 22)).alloc (.cells #[.int .i64 64] 3) := ⟨_, rfl⟩
  have hsz4 : W4.heap.size = w3.heap.size + 2 := by rw [hW4]; simp
  have hlt3 : w.heap.size < w3.heap.size := (Array.getElem?_eq_some_iff.1 HH3.out).1
  have hb4 : Below w3.heap.size w3 W4 := by rw [hW4]; exact ((Below.refl _ w3).alloc (Nat.le_refl _) _).alloc (by simp) _
  have hqb : W4.heap[w3.heap.size]? = some (.cells #[.slice A3 ys.length c3] 22 (0, 0)) := by rw [hW4]; exact heap_alloc2_old w3 _ _
  have hqn : W4.heap[w3.heap.size + 1]? = some (.cells #[.int .i64 64] 3 (0, 0)) := by rw [hW4]; exact heap_alloc2_new w3 _ _
  have hJ4 : JS w w.heap.size A3 c3 ys [] W4 := ⟨(hb4.block _ hlt3).trans HH3.out, Kd.R_below HR3.out hb4, below_step HB3.out hb4⟩
  rw [← hW4]
  have HQB := Aside0.mk hqb
  have HQN := Aside0.mk hqn
  have HJ4 := Aside0.mk hJ4
  clear hW4 hb4 hqb hqn hJ4 HR3 HB3 HH3
  refine range_iter (gf := 60) (lb := #[.pointer (some ⟨w3.heap.size, 0, none⟩), .pointer (some ⟨w3.heap.size + 1, 0, none⟩)]) (by simp [go_sem]) (enters_of Tryd.func60 (by kernel_rfl) rfl) (JS w w.heap.size A3 c3 ys) encC (fun s => s = chunksL ys m)
    (fun s x => s ++ [x] <+: chunksL ys m) (KpC w.heap.size) StC
    (fun vs => { tmps := #[.slice A0 l0.length c0, undef, .slice none 0 0, .pointer (some ⟨w.heap.size, 0, none⟩), .slice A1 xs.length c1, vs.getD 0 undef, undef, undef, undef, .agg ivH.vals.toArray, .slice A0 l0.length c0, .slice A1 xs.length c1, .slice A1 xs.length c1, .slice A1 xs.length c1, .int .i64 (xs.length : Int), .int .u64 (xs.length : Int), .slice A2 (padL xs.length).length c2, .slice A3 ys.length c3, .func (.func 60) #[] #[.pointer (some ⟨w3.heap.size, 0, none⟩), .pointer (some ⟨w3.heap.size + 1, 0, none⟩)], vs.getD 0 undef, undef, undef, undef, undef, undef, undef, undef, undef, undef, undef, undef, undef, undef, undef], defers := [] }) ?hsz ?hJ0 ?hJl ?henc ?hJS ?hSt ?hKt ?hKl ?hassign ?hbody ?hiter ?hdone
  case hsz => rintro x A vs ⟨A', rfl, _⟩; rfl
  case hJ0 =>
    intro r
    obtain ⟨h1, h2, h3⟩ := HJ4.out
    have hb : Below W4.heap.size W4 ((W4.alloc (.deferred (some []))).alloc (.loop r)) := ((Below.refl _ W4).alloc (Nat.le_refl _) _).alloc (by simp) _
    exact ⟨(hb.block _ (by omega)).trans h1, Kd.R_below h2 hb, below_step h3 hb⟩
  case hJl =>
    rintro s A r r' ⟨h1, h2, h3⟩ hl
    have hne : w.heap.size ≠ W4.heap.size + 1 := by omega
    exact ⟨(World.putObj_heap_other hne).trans h1, R_putObj h2 hl rfl _, h3.grown (grownBy_putObj' _ _ _) h3.size (fun k e => by cases e; omega)⟩
  case henc =>
    rintro x A vs r r' ⟨A', rfl, hxl, hC⟩ hl
    exact ⟨A', rfl, hxl, C_putObj hC hl rfl _⟩
  case hJS =>
    rintro s A B ⟨h1, h2, h3⟩ hst
    have hst' : Below A.heap.size A B := hst
    exact ⟨(hst'.block _ (Array.getElem?_eq_some_iff.1 h1).1).trans h1, Kd.R_below h2 hst', below_step h3 hst'⟩
  case hSt =>
    rintro A B k o hst hk ho hc
    have hst' : Below A.heap.size A B := hst
    exact (hst'.block _ (Array.getElem?_eq_some_iff.1 ho).1).trans ho
  case hKt => exact fun A B C h k => ⟨Nat.le_trans h.1 k.1, fun j o ho hc hne => k.2 j o (h.2 j o ho hc hne) hc hne⟩
  case hKl =>
    intro A r r' hl
    refine ⟨by simp, fun k o ho hc hne => ?_⟩
    rw [World.putObj_heap_other (fun e => by rw [e, hl] at ho; cases ho; cases hc)]
    exact ho
  case hassign =>
    rintro l x A vs Kc ⟨A', rfl, _⟩ hK
    gi_wp2
    exact hK
  case hbody =>
    rintro l s x A vs hpf ⟨h1, h2, h3⟩ ⟨A2, rfl, hxl, hC⟩
    have hok : (s.foldl blockN ivH).ok := foldB_ok ivH_ok s
    obtain ⟨st, hst⟩ : ∃ st, st = s.foldl blockN ivH := ⟨_, rfl⟩
    rw [← hst] at h1 hok
    have hxb : ∀ y ∈ x, 0 ≤ y ∧ y ≤ 255 := by
      have hx : x ∈ chunksL ys m := hpf.subset (by simp)
      obtain ⟨i, _, rfl⟩ := List.mem_map.1 hx
      exact fun y hy => HYB.out y (List.mem_of_mem_drop (List.mem_of_mem_take hy))
    have hblk := block_any st hok A2 64 x A hC (Nat.le_refl _) hxb (HG.out.below rfl h3)
    have H1 := Aside0.mk h1
    have H2 := Aside0.mk h2
    have H3 := Aside0.mk h3
    have HST := Aside0.mk hst
    have HBLK := Aside0.mk hblk
    clear h1 h2 h3 hst hblk hC hpf
    gi_wp2_with (refine loadRowIn rfl 25 (.tmp 3) rfl w.heap.size rfl 25 st.vals.toArray (0, 0) _ H1.out Tryd.underlying25 rfl (vals_size8 _) ?_)
    refine ⟨trivial, (CallsIn.inRound l (callsIn_wide.2 HBLK.out)).mono ?_⟩
    rintro e w5 ⟨rfl, hb5⟩
    have g5 : w5.heap[w.heap.size]? = some (.cells st.vals.toArray 25 (0, 0)) := (hb5.block _ (Array.getElem?_eq_some_iff.1 H1.out).1).trans H1.out
    have G5 := Aside0.mk g5
    have HB5 := Aside0.mk hb5
    clear g5 hb5 HBLK
    gi_wp2_with (refine storeRowIn rfl 25 (.tmp 3) (.tmp 22) rfl w.heap.size (blockN st x).vals.toArray rfl rfl 25 _ G5.out (vals_size8 _) (vals_sizes _ _) (vals_one _) ?_)
    have far : ∀ k, k < A.heap.size → k ≠ w.heap.size → (w5.setRow w.heap.size (blockN st x).vals.toArray).heap[k]? = A.heap[k]? := fun k hk hne => (setRow_other w5 w.heap.size k _ hne).trans (HB5.out.block k hk)
    have hgrow : A.heap.size ≤ (w5.setRow w.heap.size (blockN st x).vals.toArray).heap.size := by
      have : (w5.setRow w.heap.size (blockN st x).vals.toArray).heap.size = w5.heap.size := by simp [World.setRow]
      rw [this]; exact HB5.out.size
    have hkp : KpC w.heap.size A (w5.setRow w.heap.size (blockN st x).vals.toArray) := ⟨hgrow, fun k o ho _ hne => (far k (Array.getElem?_eq_some_iff.1 ho).1 hne).trans ho⟩
    refine ⟨⟨?_, hkp.row H2.out (fun _ hk => hk), below_setRow (below_step H3.out HB5.out) (Nat.le_refl _) _⟩, hkp, ?_⟩
    · rw [List.foldl_append, ← HST.out]
      exact setRow_heap w5 w.heap.size _ _ _ _ G5.out
    · exact ⟨hgrow, fun k o hk ho hc => (far k (Array.getElem?_eq_some_iff.1 ho).1 (by omega)).trans ho⟩
  case hiter =>
    intro r K hKS hY h0
    have hb : Below W4.heap.size W4 ((W4.alloc (.deferred (some []))).alloc (.loop r)) := ((Below.refl _ W4).alloc (Nat.le_refl _) _).alloc (by simp) _
    exact chunk_iter (W4.heap.size + 1) w3.heap.size (w3.heap.size + 1) w.heap.size w.heap.size A3 c3 ys m HYL.out (by omega) (by omega) (by omega) K hKS hY _ h0 ((hb.block _ (by omega)).trans HQB.out) ((hb.block _ (by omega)).trans HQN.out) (Kd.R_below HJ4.out.2.1 hb)
  case hdone =>
    rintro s W rfl ⟨h1, h2, h3⟩ hD
    have hok : ((chunksL ys m).foldl blockN ivH).ok := foldB_ok ivH_ok _
    have hfold : (chunksL ys m).foldl blockN ivH = runB ivH ys m := rfl
    rw [hfold] at h1 hok
    obtain ⟨st, hst⟩ : ∃ st, st = runB ivH ys m := ⟨_, rfl⟩
    have hsh := HSHA.out
    rw [← hst] at h1 hok hsh
    have H1 := Aside0.mk h1
    have H3 := Aside0.mk h3
    have HD := Aside0.mk hD
    have HSH := Aside0.mk hsh
    clear h1 h2 h3 hD hst hfold hsh
    go_wp2_with (with_reducible refine wpList_load_row rfl 25 (.tmp 3) rfl w.heap.size rfl 25 st.vals.toArray (0, 0) _ H1.out Tryd.underlying25 rfl (vals_size8 _) ?_)
    go_loopw [6, 24] (fun v6 v24 wr => ∃ (k : Nat), k ≤ 8 ∧ v24 = .int .i64 (k : Int) ∧ Aside0 (Kd.R (Kd.int .u8) 5 wr W.heap.size (fun _ => True) v6 (digL (st.nats.take k)) ∧ Below W.heap.size W wr)) (fun _ v24 _ => 8 - (intOf v24).toNat)
    case atStart => exact ⟨0, Nat.zero_le _, rfl, ⟨Kd.R_nil _ _ _ _ _, Below.refl _ _⟩⟩
    case round =>
      obtain ⟨k, hk, rfl, ⟨⟨hR, hbw⟩⟩⟩ := hrel
      obtain ⟨A6, c6, rfl⟩ := Kd.R_slice hR
      have hdl : (digL (st.nats.take k)).length = 4 * k := by
        have : (st.nats.take k).length = k := by rw [List.length_take]; show min k 8 = k; omega
        have e : ∀ l : List Nat, (digL l).length = 4 * l.length := by
          intro l
          induction l with
          | nil => rfl
          | cons a l ih => show (beN a 4 ++ digL l).length = _; rw [List.length_append, beN_length, ih, List.length_cons]; omega
        rw [e, this]
      by_cases h8 : k < 8
      · have hix := run_index_vals st k h8
        have hn := nats_lt hok k
        have hdk : digL (st.nats.take (k + 1)) = digL (st.nats.take k) ++ beN (st.nats.getD k 0) 4 := by
          have h7 : k < st.nats.length := h8
          rw [List.take_succ_eq_append_getElem h7]
          have : ∀ a b : List Nat, digL (a ++ b) = digL a ++ digL b := fun a b => by simp [digL]
          rw [this]
          simp [digL, List.getD_eq_getElem?_getD, h7]
        obtain ⟨n, hnn⟩ : ∃ n, n = st.nats.getD k 0 := ⟨_, rfl⟩
        rw [← hnn] at hix hn hdk
        have hput := fun X : World => num_Put.calls 9 (n : Int) 4 (beN n 4) X (put4 n)
        have hwn : IntKind.u64.wrap (n : Int) = (n : Int) := wraps_u64 _ (by omega) (by omega)
        have HRR := Aside0.mk hR
        have HBW := Aside0.mk hbw
        have HDK := Aside0.mk hdk
        have HPUT := Aside0.mk hput
        have HDL := Aside0.mk hdl
        clear hR hbw hdk hput hnn hdl
        go_wp2_with (go_at_call 47; ((with_reducible refine (HPUT.out _).mono ?_)))
        rintro e w8 ⟨v8, rfl, hR8, hb8⟩
        obtain ⟨A8, c8, rfl, hl8, hC8⟩ := Kd.R_reads hR8
        have HB8 := Aside0.mk (below_step HBW.out hb8)
        have HR8 := Aside0.mk (Kd.R_below HRR.out hb8)
        have HC8 := Aside0.mk hC8
        clear hR8 hb8 hC8 hl8
        have H4 := Aside0.mk (beN_length n 4)
        go_wp2_with (at_builtin; refine Kd.R_append_rows (Kd.int .u8) (w0 := W) W.heap.size rfl (.tmp 27) (.tmp 30) 22 5 (.int .u8 0) 1 rfl Tryd.underlying22 info5b rfl (by decide) (by omega) (.slice A6 (digL (st.nats.take k)).length c6) (digL (st.nats.take k)) (beN n 4) _ _ _ (fun _ => True) (fun _ => False) rfl rfl HR8.out HC8.out (fun _ _ h => h) (fun _ h => h.elim) (fun _ _ => trivial) HB8.out HB8.out.size (by have := HDL.out; have := H4.out; omega) ?_; intro v9 w9 hR9 hb9 _ _; have HR9 := Aside0.mk hR9; have HB9 := Aside0.mk hb9; clear hR9 hb9)
        go_roundw
        case rel => exact ⟨k + 1, by omega, by go_num, ⟨by rw [HDK.out]; exact HR9.out, HB9.out⟩⟩
        case measure => simp [intOf]; omega
      · obtain rfl : k = 8 := by omega
        have e8 : digL (st.nats.take 8) = shaL xs := by rw [HSH.out]; rfl
        rw [e8] at hR hdl ⊢
        have HRR := Aside0.mk hR
        have HBW := Aside0.mk hbw
        clear hR hbw e8
        clear hdl
        go_wp2
        have hD2 : W.heap[w3.heap.size + 2]? = some (.deferred (some [])) := by rw [← hsz4]; exact HD.out
        have hD3 : wr.heap[w3.heap.size + 2]? = some (.deferred (some [])) := (HBW.out.block _ (Array.getElem?_eq_some_iff.1 hD2).1).trans hD2
        refine ⟨by simp, .inl ⟨_, _, rfl, run_takeDeferred hD3, ?_⟩⟩
        refine ⟨_, results_tmp rfl _ _ _, _, rfl, ?_, ?_⟩
        · exact R_putObj (Kd.R_lower HRR.out H3.out.size) hD3 rfl _
        · exact (below_step H3.out HBW.out).grown (grownBy_putObj' _ _ _) (Nat.le_trans H3.out.size HBW.out.size) (fun k e => by cases e; omega)
end Go.Proofs.YtfmdpkilgnccfaaDoor.E
