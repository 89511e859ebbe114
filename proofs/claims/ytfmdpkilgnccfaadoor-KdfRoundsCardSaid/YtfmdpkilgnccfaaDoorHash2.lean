/- kdf.Hash by hand. -/
import Derived.Test.YtfmdpkilgnccfaaDoorHash1
import Derived.Laws.EntriesVeiled
namespace Go.Proofs.YtfmdpkilgnccfaaDoor.E
open Go.RowKit Go.Shelf Go.Proofs.YtfmdpkilgnccfaaDoorW.PrintWords Go.Proofs.YtfmdpkilgnccfaaDoorW.PrintLast Go.Proofs.YtfmdpkilgnccfaaDoorW.PrintMore Go.Proofs.YtfmdpkilgnccfaaDoor.Pr
attribute [local go_sem] Oper.semAt_some
set_option linter.unusedVariables false
set_option linter.unusedSimpArgs false
theorem hash_out (A0 : Option Addr) (n0 c0 : Nat) (A1 : Option Addr) (n1 c1 : Nat) (n : Int) (hn : n < 1 ∨ 1000 < n) (W : World) : Calls Tryd.prog 37 #[.slice A0 n0 c0, .slice A1 n1 c1, .int .i64 n] W fun e w' => e = .returned (.slice none 0 0) ∧ Below W.heap.size W w' := by
  rcases hn with hn | hn
  · have h1 : decide (n < 1) = true := decide_eq_true hn
    go_enter Tryd.func37, Tryd.ntmps37
    go_wp2
    go_ret
    exact ⟨rfl, Below.refl _ _⟩
  · have h0 : ¬ n < 1 := by omega
    have h1 : decide (n < 1) = false := decide_eq_false h0
    go_enter Tryd.func37, Tryd.ntmps37
    go_wp2
    go_ret
    exact ⟨rfl, Below.refl _ _⟩
def JH (w : World) (g : Nat) (s : List (List Int)) (W : World) : Prop :=
  W.heap[g]? = some (.cells (rowV (outL s)) 5 (0, 0)) ∧ W.heap[g + 1]? = some (.cells #[.slice (some ⟨g, 0, none⟩) 32 32] 22 (0, 0)) ∧ W.heap[g + 1 + 1]? = some (.cells #[.func (.func 56) #[] #[.pointer (some ⟨g + 1, 0, none⟩)]] 79 (0, 0)) ∧ Below w.heap.size w W
set_option maxRecDepth 100000 in
set_option maxHeartbeats 8000000 in
theorem hash_any (A0 : Option Addr) (c0 : Nat) (pass : List Int) (A1 : Option Addr) (c1 : Nat) (salt : List Int) (n : Nat) (hn1 : 1 ≤ n) (hn : n ≤ 1000) (w : World) (hr0 : Kd.C (Kd.int .u8) w A0 pass.length pass) (hc0 : pass.length ≤ c0) (hb0 : ∀ x ∈ pass, 0 ≤ x ∧ x ≤ 255) (hl0 : pass.length ≤ 1000000)
    (hr1 : Kd.C (Kd.int .u8) w A1 salt.length salt) (hc1 : salt.length ≤ c1) (hb1 : ∀ x ∈ salt, 0 ≤ x ∧ x ≤ 255) (hl1 : salt.length ≤ 800000) (hG : RootsIn w) :
    Calls Tryd.prog 37 #[.slice A0 pass.length c0, .slice A1 salt.length c1, .int .i64 (n : Int)] w fun e w' => ∃ v, e = .returned v ∧ SumVal (hashL pass salt n) v w' ∧ Below w.heap.size w w' := by
  have hm : ∀ W : World, (Instr.makeSlice 22 (.int .i64 32) (.int .i64 32)).run Tryd.prog W = .ok (.slice (some ⟨W.heap.size, 0, none⟩) 32 32) (W.alloc (.cells (madeCells #[.int .u8 0] 32) 5)) := print_make (P := Tryd.prog) 22 5 .u8 1 Tryd.underlying22 info5b (by decide) 32 (by decide)
  have h0 : ¬ (n : Int) < 1 := by omega
  have h1 : decide ((n : Int) < 1) = false := decide_eq_false h0
  have h2 : ¬ (1000 : Int) < (n : Int) := by omega
  have h3 : decide ((1000 : Int) < (n : Int)) = false := decide_eq_false h2
  have HR0 := Aside0.mk hr0
  have HR1 := Aside0.mk hr1
  have HB0 := Aside0.mk hb0
  have HB1 := Aside0.mk hb1
  have HG := Aside0.mk hG
  obtain ⟨np, hnp⟩ : ∃ np, np = pass.length := ⟨_, rfl⟩
  obtain ⟨ns, hns⟩ : ∃ ns, ns = salt.length := ⟨_, rfl⟩
  rw [← hnp] at HR0 hc0 hl0 ⊢
  rw [← hns] at HR1 hc1 hl1 ⊢
  have HNP := Aside0.mk hnp
  have HNS := Aside0.mk hns
  have hA0 : ∀ ad, A0 = some ad → 0 < np → ad.block < w.heap.size := by
    rintro ad rfl hp
    obtain ⟨_, e, hx⟩ := Kd.at_int HR0.out 0 (by decide) (by omega)
    cases e
    have := block_lt_of_cell hx
    rwa [show (0 : Int).toNat = 0 from rfl, Addr.add_zero'] at this
  have HA0 := Aside0.mk hA0
  have hA1 : ∀ ad, A1 = some ad → 0 < ns → ad.block < w.heap.size := by
    rintro ad rfl hp
    obtain ⟨_, e, hx⟩ := Kd.at_int HR1.out 0 (by decide) (by omega)
    cases e
    have := block_lt_of_cell hx
    rwa [show (0 : Int).toNat = 0 from rfl, Addr.add_zero'] at this
  have HA1 := Aside0.mk hA1
  clear hr0 hr1 hb0 hb1 hG hnp hns hA0 hA1
  refine (callsIn_wide (n := 3)).1 (callsIn_of_wp_marks Tryd.func37 rfl trivial ?_ rfl)
  simp only [Tryd.ntmps37, List.size_toArray, List.length_cons, List.length_nil, Nat.reduceAdd, Nat.reduceSub, Array.replicate_succ, Array.replicate_zero, List.push_toArray, List.append_toArray, List.nil_append, List.cons_append]
  gi_wp2
  refine ⟨trivial, (callsIn_wide.2 (rounds_any A0 np c0 A1 ns c1 (n : Int) _)).mono ?_⟩
  rintro e w1 ⟨rfl, rfl⟩
  gi_wp2
  obtain ⟨W1, hW1⟩ : ∃ W1, W1 = w.alloc (.cells (madeCells #[.int .u8 0] 32) 5) := ⟨_, rfl⟩
  rw [← hW1]
  obtain ⟨W2, hW2⟩ : ∃ W2, W2 = W1.alloc (.cells #[.slice (some ⟨w.heap.size, 0, none⟩) 32 32] 22) := ⟨_, rfl⟩
  rw [← hW2]
  obtain ⟨W3, hW3⟩ : ∃ W3, W3 = W2.alloc (.cells #[.func (.func 56) #[] #[.pointer (some ⟨w.heap.size + 1, 0, none⟩)]] 79) := ⟨_, rfl⟩
  rw [← hW3]
  obtain ⟨W5, hW5⟩ : ∃ W5, W5 = W3.alloc (.cells #[.slice A0 np c0] 22) := ⟨_, rfl⟩
  rw [← hW5]
  obtain ⟨W6, hW6⟩ : ∃ W6, W6 = W5.alloc (.cells #[.slice A1 ns c1] 22) := ⟨_, rfl⟩
  rw [← hW6]
  obtain ⟨W4, hW4⟩ : ∃ W4, W4 = W6.alloc (.cells #[.int .i64 (n : Int)] 3) := ⟨_, rfl⟩
  rw [← hW4]
  have s1 : W1.heap.size = w.heap.size + 1 := by rw [hW1]; simp
  have s2 : W2.heap.size = w.heap.size + 1 + 1 := by rw [hW2]; simp [s1]
  have s3 : W3.heap.size = w.heap.size + 1 + 1 + 1 := by rw [hW3]; simp [s2]
  have s5 : W5.heap.size = w.heap.size + 1 + 1 + 1 + 1 := by rw [hW5]; simp [s3]
  have s6 : W6.heap.size = w.heap.size + 1 + 1 + 1 + 1 + 1 := by rw [hW6]; simp [s5]
  have s4 : W4.heap.size = w.heap.size + 1 + 1 + 1 + 1 + 1 + 1 := by rw [hW4]; simp [s6]
  have b01 : Below w.heap.size w W1 := by rw [hW1]; exact (Below.refl _ w).alloc (Nat.le_refl _) _
  have b12 : Below W1.heap.size W1 W2 := by rw [hW2]; exact (Below.refl _ W1).alloc (Nat.le_refl _) _
  have b23 : Below W2.heap.size W2 W3 := by rw [hW3]; exact (Below.refl _ W2).alloc (Nat.le_refl _) _
  have b35 : Below W3.heap.size W3 W5 := by rw [hW5]; exact (Below.refl _ W3).alloc (Nat.le_refl _) _
  have b56 : Below W5.heap.size W5 W6 := by rw [hW6]; exact (Below.refl _ W5).alloc (Nat.le_refl _) _
  have b64 : Below W6.heap.size W6 W4 := by rw [hW4]; exact (Below.refl _ W6).alloc (Nat.le_refl _) _
  have b34 : Below W3.heap.size W3 W4 := below_step (below_step b35 b56) b64
  have b24 : Below W2.heap.size W2 W4 := below_step b23 b34
  have b14 : Below W1.heap.size W1 W4 := below_step b12 b24
  have b04 : Below w.heap.size w W4 := below_step b01 b14
  have f0 : W4.heap[w.heap.size]? = some (.cells (rowV (outL [])) 5 (0, 0)) := by
    refine (b14.block _ (by omega)).trans ?_
    have e : rowV (outL []) = madeCells #[.int .u8 0] 32 := (made_eq 32).symm
    rw [e, hW1]; exact heap_alloc_new w _
  have f1 : W4.heap[w.heap.size + 1]? = some (.cells #[.slice (some ⟨w.heap.size, 0, none⟩) 32 32] 22 (0, 0)) := by
    refine (b24.block _ (by omega)).trans ?_
    rw [hW2, ← s1]; exact heap_alloc_new W1 _
  have f2 : W4.heap[w.heap.size + 1 + 1]? = some (.cells #[.func (.func 56) #[] #[.pointer (some ⟨w.heap.size + 1, 0, none⟩)]] 79 (0, 0)) := by
    refine (b34.block _ (by omega)).trans ?_
    rw [hW3, ← s2]; exact heap_alloc_new W2 _
  have f3 : W4.heap[w.heap.size + 1 + 1 + 1]? = some (.cells #[.slice A0 np c0] 22 (0, 0)) := by
    refine ((below_step b56 b64).block _ (by omega)).trans ?_
    rw [hW5, ← s3]; exact heap_alloc_new W3 _
  have f4 : W4.heap[w.heap.size + 1 + 1 + 1 + 1]? = some (.cells #[.slice A1 ns c1] 22 (0, 0)) := by
    refine (b64.block _ (by omega)).trans ?_
    rw [hW6, ← s5]; exact heap_alloc_new W5 _
  have f5 : W4.heap[w.heap.size + 1 + 1 + 1 + 1 + 1]? = some (.cells #[.int .i64 (n : Int)] 3 (0, 0)) := by
    rw [hW4, ← s6]; exact heap_alloc_new W6 _
  have HJ0 := Aside0.mk (show JH w w.heap.size [] W4 from ⟨f0, f1, f2, b04⟩)
  have F3 := Aside0.mk f3
  have F4 := Aside0.mk f4
  have F5 := Aside0.mk f5
  clear hW1 hW2 hW3 hW4 hW5 hW6 s1 s2 s3 s5 s6 b01 b12 b23 b35 b56 b64 b34 b24 b14 b04 f0 f1 f2 f3 f4 f5 hm h0 h1 h2 h3
  clear W1 W2 W3 W5 W6
  refine range_iter (gf := 65) (lb := #[.pointer (some ⟨w.heap.size + 1 + 1 + 1 + 1, 0, none⟩), .pointer (some ⟨w.heap.size + 1 + 1 + 1 + 1 + 1, 0, none⟩), .pointer (some ⟨w.heap.size + 1 + 1 + 1, 0, none⟩)]) (by simp [go_sem]) (enters_of Tryd.func65 (by kernel_rfl) rfl) (JH w w.heap.size) (encU w.heap.size) (fun s => s = seqU pass salt n)
    (fun s x => s ++ [x] <+: seqU pass salt n) (KpC w.heap.size) StC
    (fun vs => { tmps := #[.slice A0 np c0, .slice A1 ns c1, .int .i64 (n : Int), undef, undef, undef, .slice none 0 0, .pointer (some ⟨w.heap.size + 1, 0, none⟩), .pointer (some ⟨w.heap.size + 1 + 1, 0, none⟩), vs.getD 0 undef, .int .i64 (n : Int), .bool false, .bool false, .int .i64 (n : Int), .bool false, .bool false, .slice (some ⟨w.heap.size, 0, none⟩) 32 32, .func (.func 56) #[] #[.pointer (some ⟨w.heap.size + 1, 0, none⟩)], .slice A0 np c0, .slice A1 ns c1, .int .i64 (n : Int), .func (.func 65) #[] #[.pointer (some ⟨w.heap.size + 1 + 1 + 1 + 1, 0, none⟩), .pointer (some ⟨w.heap.size + 1 + 1 + 1 + 1 + 1, 0, none⟩), .pointer (some ⟨w.heap.size + 1 + 1 + 1, 0, none⟩)], vs.getD 0 undef, undef, undef, undef, undef], defers := [] }) ?hsz ?hJ0 ?hJl ?henc ?hJS ?hSt ?hKt ?hKl ?hassign ?hbody ?hiter ?hdone
  case hsz => rintro x A vs ⟨A', c', rfl, _⟩; rfl
  case hJ0 =>
    intro r
    obtain ⟨h1, h2, h3, h4⟩ := HJ0.out
    have hb : Below W4.heap.size W4 ((W4.alloc (.deferred (some []))).alloc (.loop r)) := ((Below.refl _ W4).alloc (Nat.le_refl _) _).alloc (by simp) _
    exact ⟨(hb.block _ (by omega)).trans h1, (hb.block _ (by omega)).trans h2, (hb.block _ (by omega)).trans h3, below_step h4 hb⟩
  case hJl =>
    rintro s A r r' ⟨h1, h2, h3, h4⟩ hl
    exact ⟨(World.putObj_heap_other (by omega)).trans h1, (World.putObj_heap_other (by omega)).trans h2, (World.putObj_heap_other (by omega)).trans h3, h4.grown (grownBy_putObj' _ _ _) h4.size (fun k e => by cases e; omega)⟩
  case henc =>
    rintro x A vs r r' ⟨A', c', rfl, hxl, hC, hA⟩ hl
    exact ⟨A', c', rfl, hxl, C_putObj hC hl rfl _, hA⟩
  case hJS =>
    rintro s A B ⟨h1, h2, h3, h4⟩ hst
    have hst' : Below A.heap.size A B := hst
    exact ⟨(hst'.block _ (Array.getElem?_eq_some_iff.1 h1).1).trans h1, (hst'.block _ (Array.getElem?_eq_some_iff.1 h2).1).trans h2, (hst'.block _ (Array.getElem?_eq_some_iff.1 h3).1).trans h3, below_step h4 hst'⟩
  case hSt =>
    rintro A B k o hst hk ho hc
    have hst' : Below A.heap.size A B := hst
    exact (hst'.block _ (Array.getElem?_eq_some_iff.1 ho).1).trans ho
  case hKt => exact fun A B C h k => h.trans k
  case hKl =>
    intro A r r' hl
    refine ⟨by simp, fun k o ho hc hne => ?_⟩
    rw [World.putObj_heap_other (fun e => by rw [e, hl] at ho; cases ho; cases hc)]
    exact ho
  case hassign =>
    rintro l x A vs Kc ⟨A', c', rfl, _⟩ hK
    gi_wp2
    exact hK
  case hbody =>
    rintro l s x A vs hpf ⟨h1, h2, h3, h4⟩ ⟨A2, c2, rfl, hxl, hC, hA⟩
    have hxb : ∀ y ∈ x, 0 ≤ y ∧ y ≤ 255 := by
      have hx : x ∈ seqU pass salt n := hpf.subset (by simp)
      obtain ⟨i, _, rfl⟩ := List.mem_map.1 hx
      exact codeL_bytes _ _
    have hsb : ∀ r ∈ s, ∀ y ∈ r, 0 ≤ y ∧ y ≤ 255 := by
      intro r hr
      have hx : r ∈ seqU pass salt n := hpf.subset (by simp [hr])
      obtain ⟨i, _, rfl⟩ := List.mem_map.1 hx
      exact codeL_bytes _ _
    have hwith := with_any w.heap.size (w.heap.size + 1) (outL s) x A2 c2 A h2 h1 (by omega) (outL_len s _ (by simp)) (outL_bytes s _ (by intro y hy; rw [List.eq_of_mem_replicate hy]; omega) hsb) hC hxb hA
    have c3 : A.cell? ⟨w.heap.size + 1 + 1, 0, none⟩ = some (.func (.func 56) #[] #[.pointer (some ⟨w.heap.size + 1, 0, none⟩)]) := blk_cell h3 0
    have H1 := Aside0.mk h1
    have H2 := Aside0.mk h2
    have H3 := Aside0.mk h3
    have H4 := Aside0.mk h4
    have HWITH := Aside0.mk hwith
    clear h1 h2 h3 h4 hwith hC hpf hxb hsb hA
    gi_wp2
    refine ⟨trivial, (CallsIn.inRound l (callsIn_wide.2 HWITH.out)).mono ?_⟩
    rintro e Y ⟨⟨v, rfl⟩, hg, hfar, hb⟩
    have l1 := (Array.getElem?_eq_some_iff.1 H1.out).1
    have l2 := (Array.getElem?_eq_some_iff.1 H2.out).1
    have l3 := (Array.getElem?_eq_some_iff.1 H3.out).1
    have hgrow : A.heap.size ≤ Y.heap.size := hb.size
    have HJ := Aside0.mk (show JH w w.heap.size (s ++ [x]) Y from ⟨by unfold outL; rw [List.foldl_append]; exact hg, (hfar _ l2 (by omega)).trans H2.out, (hfar _ l3 (by omega)).trans H3.out, H4.out.trans hb⟩)
    have HKP := Aside0.mk (show KpC w.heap.size A Y from ⟨hgrow, fun k o ho _ hne => (hfar k (Array.getElem?_eq_some_iff.1 ho).1 hne).trans ho⟩)
    have HKF := Aside0.mk (show KeepsFrom W4.heap.size A Y from ⟨hgrow, fun k o hk ho hc => (hfar k (Array.getElem?_eq_some_iff.1 ho).1 (by omega)).trans ho⟩)
    clear hg hfar hb c3
    gi_wp2
    exact ⟨HJ.out, HKP.out, by rw [← s4]; exact HKF.out⟩
  case hiter =>
    intro r K hKS hY hk0
    have hb : Below W4.heap.size W4 ((W4.alloc (.deferred (some []))).alloc (.loop r)) := ((Below.refl _ W4).alloc (Nat.le_refl _) _).alloc (by simp) _
    have hbw := below_step HJ0.out.2.2.2 hb
    have hG0 := HG.out.1
    have hnp := HNP.out
    have hns := HNS.out
    exact rounds_iter (W4.heap.size + 1) w.heap.size (w.heap.size + 1 + 1 + 1 + 1) (w.heap.size + 1 + 1 + 1 + 1 + 1) (w.heap.size + 1 + 1 + 1) A1 c1 salt A0 c0 pass n hn (by omega) (by omega) (by omega) (by omega) HB1.out HB0.out (by omega) (by omega) (by omega) (by omega)
      (fun hp ad e => by have := HA1.out ad e (by omega); omega) (fun hp ad e => by have := HA0.out ad e (by omega); omega) K hKS hY _ hk0 (by rw [← hns]; exact (hb.block _ (by omega)).trans F4.out) ((hb.block _ (by omega)).trans F5.out) (by rw [← hnp]; exact (hb.block _ (by omega)).trans F3.out) (by rw [← hns]; exact Kd.C_below HR1.out hbw) (by rw [← hnp]; exact Kd.C_below HR0.out hbw) (HG.out.below rfl hbw) (by simp; omega)
  case hdone =>
    rintro s W rfl ⟨h1, h2, h3, h4⟩ hD
    have c7 : W.cell? ⟨w.heap.size + 1, 0, none⟩ = some (.slice (some ⟨w.heap.size, 0, none⟩) 32 32) := blk_cell h2 0
    have hlen : (outL (seqU pass salt n)).length = 32 := outL_len _ _ (by simp)
    have hrow : Kd.C (Kd.int .u8) W (some ⟨w.heap.size, 0, none⟩) 32 (hashL pass salt n) := by
      have := row_of_cells W w.heap.size ((outL (seqU pass salt n)).map (Value.int .u8)) (outL (seqU pass salt n)) h1 (by rw [hlen]; decide) (fun j hj => by simp [List.getD_eq_getElem?_getD, hj])
      rwa [hlen] at this
    have HROW := Aside0.mk hrow
    have H4 := Aside0.mk h4
    have HD := Aside0.mk hD
    clear h1 h2 h3 h4 hlen hrow hD
    gi_wp2
    have hD3 := HD.out
    refine ⟨by simp, .inl ⟨_, _, rfl, run_takeDeferred hD3, ?_⟩⟩
    refine ⟨_, results_tmp rfl _ _ _, _, rfl, ?_, ?_⟩
    · exact ⟨some ⟨w.heap.size, 0, none⟩, 32, rfl, C_putObj HROW.out hD3 rfl _, Nat.le_refl _⟩
    · exact H4.out.grown (grownBy_putObj' _ _ _) H4.out.size (fun k e => by cases e; omega)
end Go.Proofs.YtfmdpkilgnccfaaDoor.E
