/- sha.Block: eight words behind sixty-four bytes more. -/
import Derived.Test.YtfmdpkilgnccfaaDoorSha2
namespace Go.Proofs.YtfmdpkilgnccfaaDoor.E
open Go.RowKit Go.Proofs.YtfmdpkilgnccfaaDoorW.PrintWords Go.Proofs.YtfmdpkilgnccfaaDoorW.PrintLast Go.Proofs.YtfmdpkilgnccfaaDoorW.PrintMore Go.Proofs.YtfmdpkilgnccfaaDoor.Pr
set_option linter.unusedVariables false
set_option linter.unusedSimpArgs false
/-- The table lies where the program's variable is. -/
def RootsIn (w : World) : Prop := 0 < w.heap.size ∧ ∀ i, i < 64 → w.cell? ⟨0, i, none⟩ = some (.int .u32 ((rootsN.getD i 0 : Nat) : Int))
theorem RootsIn.below {w w' : World} {n : Nat} (h : RootsIn w) (hn : n = w.heap.size) (hb : Below n w w') : RootsIn w' := by
  subst hn
  refine ⟨Nat.lt_of_lt_of_le h.1 hb.size, fun i hi => ?_⟩
  rw [← h.2 i hi]
  exact hb.cell (p := ⟨_, i, none⟩) h.1
def H8.vals (s : H8) : List Value := [.int .u32 (s.a : Int), .int .u32 (s.b : Int), .int .u32 (s.c : Int), .int .u32 (s.d : Int), .int .u32 (s.e : Int), .int .u32 (s.f : Int), .int .u32 (s.g : Int), .int .u32 (s.h : Int)]
theorem run_index_u32s (W : List Nat) (k : Nat) (hW : W.length = 64) (hk : k < 64) (w : World) :
    (Instr.index 67 (.agg (u32s W).toArray) (.int .i64 (k : Int))).run Tryd.prog w = .ok (.int .u32 ((W.getD k 0 : Nat) : Int)) w := by
  have hu := Tryd.underlying67
  have h1 : (u32s W)[k]? = some (.int .u32 ((W.getD k 0 : Nat) : Int)) := by
    simp only [u32s, List.getElem?_map, List.getD_eq_getElem?_getD]
    rw [List.getElem?_eq_getElem (by omega)]
    rfl
  have hw : (0 : Int) ≤ (k : Int) ∧ (k : Int) < 64 := by omega
  simp [Instr.index, run_underlying hu, h1, hk, asIntOf, part, hw, Result.andThen, Tryd.sizeOf24, Tryd.isAgg24, go_sem]
/-- A callee that leaves its world alone, in a region that draws behind one that drew. -/
theorem calls_drawn {P : Program} {f : FuncId} {args : Array Value} {w : World} {m n : Nat} {v : Value} (c : Calls P f args (w.drewN (m + n)) fun e w' => e = .returned v ∧ w' = w.drewN (m + n)) :
    Calls P f args (w.drewN (m + n)) fun e w' => e = .returned v ∧ ∃ j, w' = w.drewN (m + j) := by
  refine c.mono ?_
  rintro e w' ⟨rfl, rfl⟩
  exact ⟨rfl, n, rfl⟩
theorem not32 (e : Nat) (h : e < 4294967296) : bits .xor .u32 IntKind.u32.max (e : Int) = ((4294967295 ^^^ e : Nat) : Int) := xor32 4294967295 e (by decide) h
theorem bS1_int (e : Nat) (h : e < 4294967296) : bits .xor .u32 (bits .xor .u32 ((rotr e 6 : Nat) : Int) ((rotr e 11 : Nat) : Int)) ((rotr e 25 : Nat) : Int) = ((bS1 e : Nat) : Int) := by
  rw [xor32 _ _ (rotr_lt _ h) (rotr_lt _ h), xor32 _ _ (xor_lt (rotr_lt _ h) (rotr_lt _ h)) (rotr_lt _ h)]; rfl
theorem bS0_int (e : Nat) (h : e < 4294967296) : bits .xor .u32 (bits .xor .u32 ((rotr e 2 : Nat) : Int) ((rotr e 13 : Nat) : Int)) ((rotr e 22 : Nat) : Int) = ((bS0 e : Nat) : Int) := by
  rw [xor32 _ _ (rotr_lt _ h) (rotr_lt _ h), xor32 _ _ (xor_lt (rotr_lt _ h) (rotr_lt _ h)) (rotr_lt _ h)]; rfl
theorem chN_int (e f g : Nat) (he : e < 4294967296) (hf : f < 4294967296) (hg : g < 4294967296) : bits .or .u32 (bits .and .u32 (e : Int) (f : Int)) (bits .and .u32 (bits .xor .u32 IntKind.u32.max (e : Int)) (g : Int)) = ((chN e f g : Nat) : Int) := by
  have h1 : 4294967295 ^^^ e < 4294967296 := xor_lt (by decide) he
  rw [not32 e he, and32 _ _ he hf, and32 _ _ h1 hg, or32 _ _ (and_lt he) (and_lt h1)]; rfl
theorem majN_int (a b c : Nat) (ha : a < 4294967296) (hb : b < 4294967296) (hc : c < 4294967296) : bits .or .u32 (bits .or .u32 (bits .and .u32 (a : Int) (b : Int)) (bits .and .u32 (a : Int) (c : Int))) (bits .and .u32 (b : Int) (c : Int)) = ((majN a b c : Nat) : Int) := by
  rw [and32 _ _ ha hb, and32 _ _ ha hc, and32 _ _ hb hc, or32 _ _ (and_lt ha) (and_lt ha), or32 _ _ (or_lt (and_lt ha) (and_lt ha)) (and_lt hb)]; rfl
/-- copy within a row that is known whole, as a step of a region that draws its order: the world behind it is written out. -/
theorem step_copy_at {P : Program} {ops : Array Oper} {o : Oper} {a : Act} {w : World} {K : Act → World → Prop} {Q : Exit → Act → World → Prop} {E : Prop} (hgd : o.guard = none) (d s : Operand) (dT sT : TypeId)
    (ho : o.op = .call { callee := .builtin .copy, args := #[d, s], argTypes := #[dT, sT] }) (elem : TypeId) (hu : P.underlying dT = some (.slice elem)) (hsz : (P.info? elem).map (·.size) = some 1)
    (g off dLen dCap sLen sCap : Nat) (ad : Addr) (hd : a.eval d = .slice (some ⟨g, off, none⟩) dLen dCap) (hs : a.eval s = .slice (some ad) sLen sCap)
    (cur : List Value) (t : TypeId) (hg : w.heap[g]? = some (.cells cur.toArray t (0, 0))) (cs out : List Value) (hn : cs.length = Nat.min sLen dLen)
    (hsrc : ∀ j v, cs[j]? = some v → w.cell? (ad.add j) = some v) (hfit : off + cs.length ≤ cur.length) (h1 : ∀ v ∈ cs, v.oneCell' = true) (hout : cur.take off ++ cs ++ cur.drop (off + cs.length) = out)
    (h : K (a.put o.dst (goInt cs.length)) (w.setRow g out.toArray)) : if Region.wanted o (yielded ops a.tmps) = true then Oper.wp P o a w K Q else E := by
  have hw : Region.wanted o (yielded ops a.tmps) = true := by simp [Region.wanted, hgd]
  rw [if_pos hw]
  have hrun := run_copy_row (P := P) w dT sT o.type elem g off dLen dCap ad sLen sCap cur.toArray t cs hu hsz hg hn hsrc (by simpa using hfit) h1
  rw [show (cur.toArray.toList.take off ++ cs ++ cur.toArray.toList.drop (off + cs.length)).toArray = out.toArray by rw [List.toList_toArray, hout]] at hrun
  unfold Oper.wp
  simp [execOp, ho, resolve, invoke, builtin, hd, hs, hrun, Result.andThen]
  exact h
theorem size8 : (Tryd.prog.info? 25).map (·.size) = some 8 := by kernel_rfl
theorem cell8 {w : World} {b : Nat} {s : H8} {t : TypeId} {fr : Nat × Nat} (h : w.heap[b]? = some (.cells s.vals.toArray t fr)) :
    w.cell? ⟨b, 0, none⟩ = some (.int .u32 (s.a : Int)) ∧ w.cell? ⟨b, 1, none⟩ = some (.int .u32 (s.b : Int)) ∧ w.cell? ⟨b, 2, none⟩ = some (.int .u32 (s.c : Int)) ∧ w.cell? ⟨b, 3, none⟩ = some (.int .u32 (s.d : Int)) ∧
    w.cell? ⟨b, 4, none⟩ = some (.int .u32 (s.e : Int)) ∧ w.cell? ⟨b, 5, none⟩ = some (.int .u32 (s.f : Int)) ∧ w.cell? ⟨b, 6, none⟩ = some (.int .u32 (s.g : Int)) ∧ w.cell? ⟨b, 7, none⟩ = some (.int .u32 (s.h : Int)) := by
  refine ⟨?_, ?_, ?_, ?_, ?_, ?_, ?_, ?_⟩ <;> (rw [cell_of_row w b _ _ t fr h]; rfl)
def H8.seven (s : H8) : List Value := [.int .u32 (s.a : Int), .int .u32 (s.b : Int), .int .u32 (s.c : Int), .int .u32 (s.d : Int), .int .u32 (s.e : Int), .int .u32 (s.f : Int), .int .u32 (s.g : Int)]
theorem src7 {w : World} {b : Nat} {s : H8} {t : TypeId} {fr : Nat × Nat} (h : w.heap[b]? = some (.cells s.vals.toArray t fr)) : ∀ j v, s.seven[j]? = some v → w.cell? ((⟨b, 0, none⟩ : Addr).add j) = some v := by
  intro j v hj
  have hj7 : j < 7 := (List.getElem?_eq_some_iff.1 hj).1
  obtain ⟨q0, q1, q2, q3, q4, q5, q6, q7⟩ := cell8 h
  have e : ∀ j, (⟨b, 0, none⟩ : Addr).add j = ⟨b, j, none⟩ := fun j => by unfold Addr.add; split <;> simp_all
  rw [e]
  have hc : j = 0 ∨ j = 1 ∨ j = 2 ∨ j = 3 ∨ j = 4 ∨ j = 5 ∨ j = 6 := by omega
  rcases hc with rfl | rfl | rfl | rfl | rfl | rfl | rfl <;> (rw [← hj]; assumption)
theorem one7 (s : H8) : ∀ v ∈ s.seven, v.oneCell' = true := by
  intro v hv
  simp only [H8.seven, List.mem_cons, List.mem_nil_iff, or_false] at hv
  rcases hv with rfl | rfl | rfl | rfl | rfl | rfl | rfl <;> rfl
def H8.nats (s : H8) : List Nat := [s.a, s.b, s.c, s.d, s.e, s.f, s.g, s.h]
theorem H8.vals_nats (s : H8) : s.vals = u32s s.nats := rfl
theorem nats_lt {s : H8} (h : s.ok) (k : Nat) : s.nats.getD k 0 < 4294967296 := by
  obtain ⟨h0, h1, h2, h3, h4, h5, h6, h7⟩ := h
  rcases Nat.lt_or_ge k 8 with hk | hk
  · have hc : k = 0 ∨ k = 1 ∨ k = 2 ∨ k = 3 ∨ k = 4 ∨ k = 5 ∨ k = 6 ∨ k = 7 := by omega
    rcases hc with rfl | rfl | rfl | rfl | rfl | rfl | rfl | rfl <;> assumption
  · rw [List.getD_eq_getElem?_getD, List.getElem?_eq_none (by exact hk)]; decide
theorem addN_nats (s h : H8) (k : Nat) (hk : k < 8) : (addN s h).nats.getD k 0 = (s.nats.getD k 0 + h.nats.getD k 0) % 4294967296 := by
  have hc : k = 0 ∨ k = 1 ∨ k = 2 ∨ k = 3 ∨ k = 4 ∨ k = 5 ∨ k = 6 ∨ k = 7 := by omega
  rcases hc with rfl | rfl | rfl | rfl | rfl | rfl | rfl | rfl <;> rfl
/-- So many of eight words of p laid over those of q. -/
def over8 (p q : List Nat) (k : Nat) : List Value := u32s (p.take k ++ q.drop k)
theorem over8_len {p q : List Nat} {k : Nat} (hp : p.length = 8) (hq : q.length = 8) (hk : k ≤ 8) : (over8 p q k).length = 8 := by
  simp only [over8, u32s, List.length_map, List.length_append, List.length_take, List.length_drop]; omega
theorem over8_at {p q : List Nat} {k : Nat} (hp : p.length = 8) (hq : q.length = 8) (hk : k < 8) : (over8 p q k)[k]? = some (Value.int .u32 ((q.getD k 0 : Nat) : Int)) := by
  simp only [over8, u32s, List.getElem?_map]
  rw [List.getElem?_append_right (by rw [List.length_take]; omega), List.length_take, List.getElem?_drop, show k + (k - min k p.length) = k by omega, List.getElem?_eq_getElem (by omega)]
  simp [List.getD_eq_getElem?_getD, show k < q.length by omega]
theorem over8_set {p q : List Nat} {k : Nat} (hp : p.length = 8) (hq : q.length = 8) (hk : k < 8) : (over8 p q k).set k (Value.int .u32 ((p.getD k 0 : Nat) : Int)) = over8 p q (k + 1) := by
  have h1 : (u32s (p.take k)).length = k := by simp only [u32s, List.length_map, List.length_take]; omega
  have h2 : u32s (p.take (k + 1)) = u32s (p.take k) ++ [Value.int .u32 ((p.getD k 0 : Nat) : Int)] := by
    rw [List.take_succ_eq_append_getElem (by omega)]
    simp only [u32s, List.map_append, List.map_cons, List.map_nil, List.getD_eq_getElem?_getD]
    rw [List.getElem?_eq_getElem (by omega)]
    rfl
  have e : ∀ a b : List Nat, u32s (a ++ b) = u32s a ++ u32s b := fun a b => List.map_append
  rw [over8, over8, e, e, List.set_append_right _ _ (by omega), h1, Nat.sub_self, h2, List.drop_eq_getElem_cons (show k < q.length by omega), List.append_assoc]
  rfl
def blkRel (w : World) (s : H8) (W : List Nat) (k : Nat) (wr : World) : Prop :=
  wr.heap[w.heap.size]? = some (.cells (stN W s k).vals.toArray 25 (0, 0)) ∧ wr.heap[w.heap.size + 1 + 1]? = some (.cells s.vals.toArray 25 (0, 0)) ∧
    (∃ z : H8, wr.heap[w.heap.size + 1]? = some (.cells z.vals.toArray 25 (0, 0))) ∧ RootsIn wr ∧ Below w.heap.size w wr
set_option maxRecDepth 100000 in
set_option maxHeartbeats 8000000 in
theorem block_any (s : H8) (hs : s.ok) (A0 : Option Addr) (c0 : Nat) (l0 : List Int) (w : World) (hr0 : Kd.C (Kd.int .u8) w A0 64 l0) (hc0 : 64 ≤ c0) (hall : ∀ x ∈ l0, 0 ≤ x ∧ x ≤ 255) (hG : RootsIn w) :
    Calls Tryd.prog 26 #[.agg s.vals.toArray, .slice A0 64 c0] w fun e w' => e = .returned (.agg (blockN s l0).vals.toArray) ∧ Below w.heap.size w w' := by
  have hWl := wordsN_len l0
  have hW3 := wordsN_lt l0 hall
  have hwd := fun (W : World) (hW : Below w.heap.size w W) => words_any A0 c0 l0 W (Kd.C_below hr0 hW) hc0 hall
  have hbl : blockN s l0 = addN (stN (wordsN l0) s 64) s := rfl
  obtain ⟨W, hW⟩ : ∃ W, W = wordsN l0 := ⟨_, rfl⟩
  rw [← hW] at hWl hW3 hbl
  have hwd' : ∀ (X : World), Below w.heap.size w X → Calls Tryd.prog 49 #[.slice A0 64 c0] X fun e w' => e = .returned (.agg (u32s W).toArray) ∧ Below X.heap.size X w' := by rw [hW]; exact hwd
  have hok := stN_ok W hs
  have HWD := Aside0.mk hwd'
  have HBL := Aside0.mk hbl
  have HWL := Aside0.mk hWl
  have HW3 := Aside0.mk hW3
  have HOK := Aside0.mk hok
  have HG := Aside0.mk hG
  have HS := Aside0.mk hs
  clear hwd hwd' hbl hWl hW3 hok hG hr0 hW hs hall
  obtain ⟨x0, x1, x2, x3, x4, x5, x6, x7⟩ := s
  show Calls Tryd.prog 26 #[.agg #[.int .u32 (x0 : Int), .int .u32 (x1 : Int), .int .u32 (x2 : Int), .int .u32 (x3 : Int), .int .u32 (x4 : Int), .int .u32 (x5 : Int), .int .u32 (x6 : Int), .int .u32 (x7 : Int)], .slice A0 64 c0] w _
  go_enter Tryd.func26, Tryd.ntmps26
  go_wp2_with (go_at_call 49; ((with_reducible refine (HWD.out _ ?hB1).mono ?_)))
  case hB1 => exact (((Below.refl _ w).alloc (Nat.le_refl _) _).alloc (by simp) _).alloc (by simp; omega) _
  rintro e w1 ⟨rfl, hb1⟩
  have hrel0 : blkRel w ⟨x0, x1, x2, x3, x4, x5, x6, x7⟩ W 0 w1 := by
    have e2 : ∀ A B C : Obj, (((w.alloc A).alloc B).alloc C).heap.size = w.heap.size + 3 := fun A B C => by simp only [World.size_alloc]
    refine ⟨?_, ?_, ⟨⟨0, 0, 0, 0, 0, 0, 0, 0⟩, ?_⟩, HG.out.below rfl ?_, ?_⟩
    · refine (hb1.block _ (by rw [e2]; omega)).trans ?_
      rw [Below.heap_alloc _ _ _ (by simp only [World.size_alloc]; omega)]
      exact heap_alloc2_old w _ _
    · refine (hb1.block _ (by rw [e2]; omega)).trans ?_
      have := fun A B C => heap_alloc2_new (w.alloc A) B C
      simp only [World.size_alloc] at this
      exact this _ _ _
    · refine (hb1.block _ (by rw [e2]; omega)).trans ?_
      rw [Below.heap_alloc _ _ _ (by simp only [World.size_alloc]; omega)]
      exact heap_alloc2_new w _ _
    · exact ((((Below.refl _ w).alloc (Nat.le_refl _) _).alloc (by simp) _).alloc (by simp; omega) _).trans (hb1.mono (by simp; omega))
    · exact ((((Below.refl _ w).alloc (Nat.le_refl _) _).alloc (by simp) _).alloc (by simp; omega) _).trans (hb1.mono (by simp; omega))
  have HREL0 := Aside0.mk hrel0
  clear hrel0 hb1
  obtain ⟨S0, hS0⟩ : ∃ S0 : H8, S0 = ⟨x0, x1, x2, x3, x4, x5, x6, x7⟩ := ⟨_, rfl⟩
  rw [← hS0] at HREL0 HBL HOK HS
  have HS0 := Aside0.mk hS0
  clear hS0
  go_wp2
  go_loopw [20] (fun v20 wr => ∃ k : Nat, k ≤ 64 ∧ v20 = .int .i64 (k : Int) ∧ Aside0 (blkRel w S0 W k wr)) (fun v20 _ => 64 - (intOf v20).toNat)
  case atStart => exact ⟨0, Nat.zero_le _, rfl, HREL0⟩
  case round =>
    obtain ⟨k, hk, rfl, HREL⟩ := hrel
    obtain ⟨⟨hb2, hb5, ⟨z, hb4⟩, hrt, hbw⟩⟩ := HREL
    by_cases h64 : k < 64
    · have hok := HOK.out k
      obtain ⟨st, hst⟩ : ∃ st, st = stN W S0 k := ⟨_, rfl⟩
      have HST := Aside0.mk hst
      rw [← hst] at hb2 hok
      obtain ⟨q0, q1, q2, q3, q4, q5, q6, q7⟩ := cell8 hb2
      have hix := run_index_u32s W k HWL.out h64
      have hwk := HW3.out k
      obtain ⟨x, hx⟩ : ∃ x, x = W.getD k 0 := ⟨_, rfl⟩
      rw [← hx] at hix hwk
      have hrk := hrt.2 k h64
      have hkl : rootsN.getD k 0 < 4294967296 := rootsN_lt _ (by
        rw [List.getD_eq_getElem?_getD, List.getElem?_eq_getElem (by rw [rootsN_len]; exact h64)]
        exact List.getElem_mem _)
      obtain ⟨K, hK⟩ : ∃ K, K = rootsN.getD k 0 := ⟨_, rfl⟩
      rw [← hK] at hrk hkl
      have HX := Aside0.mk hx
      have HKK := Aside0.mk hK
      have HB2 := Aside0.mk hb2
      have HB4 := Aside0.mk hb4
      have HB5 := Aside0.mk hb5
      have HRT := Aside0.mk hrt
      have HBW := Aside0.mk hbw
      obtain ⟨sa, sb, sc, sd, se, sf, sg, sh⟩ := st
      obtain ⟨ba, bb, bc, bd, be, bf, bg, bh⟩ := hok
      simp only at q0 q1 q2 q3 q4 q5 q6 q7 ba bb bc bd be bf bg bh
      have ht1 : ((sh : Int) + (x : Int) + (K : Int) + bits .xor .u32 (bits .xor .u32 ((rotr se 6 : Nat) : Int) ((rotr se 11 : Nat) : Int)) ((rotr se 25 : Nat) : Int) + bits .or .u32 (bits .and .u32 (se : Int) (sf : Int)) (bits .and .u32 (bits .xor .u32 IntKind.u32.max (se : Int)) (sg : Int))) % 4294967296 = ((t1N ⟨sa, sb, sc, sd, se, sf, sg, sh⟩ x K : Nat) : Int) := by
        rw [bS1_int se be, chN_int se sf sg be bf bg]; unfold t1N; simp only; omega
      have ht2 : (bits .xor .u32 (bits .xor .u32 ((rotr sa 2 : Nat) : Int) ((rotr sa 13 : Nat) : Int)) ((rotr sa 22 : Nat) : Int) + bits .or .u32 (bits .or .u32 (bits .and .u32 (sa : Int) (sb : Int)) (bits .and .u32 (sa : Int) (sc : Int))) (bits .and .u32 (sb : Int) (sc : Int))) % 4294967296 = ((t2N ⟨sa, sb, sc, sd, se, sf, sg, sh⟩ : Nat) : Int) := by
        rw [bS0_int sa ba, majN_int sa sb sc ba bb bc]; unfold t2N; simp only; omega
      have hrn : rndN ⟨sa, sb, sc, sd, se, sf, sg, sh⟩ x K = ⟨(t1N ⟨sa, sb, sc, sd, se, sf, sg, sh⟩ x K + t2N ⟨sa, sb, sc, sd, se, sf, sg, sh⟩) % 4294967296, sa, sb, sc, (sd + t1N ⟨sa, sb, sc, sd, se, sf, sg, sh⟩ x K) % 4294967296, se, sf, sg⟩ := rfl
      have l1 : t1N ⟨sa, sb, sc, sd, se, sf, sg, sh⟩ x K < 4294967296 := Nat.mod_lt _ (by decide)
      have l2 : t2N ⟨sa, sb, sc, sd, se, sf, sg, sh⟩ < 4294967296 := Nat.mod_lt _ (by decide)
      obtain ⟨t1, h1⟩ : ∃ t, t = t1N ⟨sa, sb, sc, sd, se, sf, sg, sh⟩ x K := ⟨_, rfl⟩
      obtain ⟨t2, h2⟩ : ∃ t, t = t2N ⟨sa, sb, sc, sd, se, sf, sg, sh⟩ := ⟨_, rfl⟩
      rw [← h1] at ht1 hrn l1
      rw [← h2] at ht2 hrn l2
      have T1 := Aside0.mk ht1
      have T2 := Aside0.mk ht2
      have HRN := Aside0.mk hrn
      clear hst hx hK hb2 hb4 hb5 hrt hbw ht1 ht2 hrn h1 h2
      go_wp2
      go_quiet (fail)
      go_wp2
      go_quiet ((go_at_call 50; first | exact calls_drawn (turn_any se 6 be (by decide) _) | exact calls_drawn (turn_any se 11 be (by decide) _) | exact calls_drawn (turn_any se 25 be (by decide) _)))
      go_wp2
      rw [T1.out]
      go_quiet ((go_at_call 50; first | exact calls_drawn (turn_any sa 2 ba (by decide) _) | exact calls_drawn (turn_any sa 13 ba (by decide) _) | exact calls_drawn (turn_any sa 22 ba (by decide) _)))
      go_wp2
      rw [T2.out]
      generalize hwq : wr.drewN _ = w2
      have g2 : w2.heap[w.heap.size]? = some (.cells (H8.mk sa sb sc sd se sf sg sh).vals.toArray 25 (0, 0)) := by rw [← hwq]; exact HB2.out
      have g5 : w2.heap[w.heap.size + 1 + 1]? = some (.cells S0.vals.toArray 25 (0, 0)) := by rw [← hwq]; exact HB5.out
      have g4 : w2.heap[w.heap.size + 1]? = some (.cells z.vals.toArray 25 (0, 0)) := by rw [← hwq]; exact HB4.out
      have gr : RootsIn w2 := by rw [← hwq]; exact HRT.out
      have gb : Below w.heap.size w w2 := by rw [← hwq]; exact pw_below_drewN HBW.out _
      clear hwq q0 q1 q2 q3 q4 q5 q6 q7 HB2 HB4 HB5 HRT HBW hrk hix
      have G2 := Aside0.mk g2
      have G4 := Aside0.mk g4
      have G5 := Aside0.mk g5
      have GR := Aside0.mk gr
      have GB := Aside0.mk gb
      obtain ⟨q0, q1, q2, q3, q4, q5, q6, q7⟩ := cell8 g2
      clear g2 g4 g5 gr gb
      have Q0 := Aside0.mk q0
      have Q1 := Aside0.mk q1
      have Q2 := Aside0.mk q2
      have Q3 := Aside0.mk q3
      have Q4 := Aside0.mk q4
      have Q5 := Aside0.mk q5
      have Q6 := Aside0.mk q6
      clear q0 q1 q2 q3 q4 q5 q6 q7
      have SRC := Aside0.mk (src7 G2.out)
      go_region_law (go_loud (refine step_copy_at rfl (.tmp 80) (.tmp 81) 70 70 rfl 24 Tryd.underlying70 (by kernel_rfl) w.heap.size 1 7 7 7 8 ⟨w.heap.size, 0, none⟩ rfl rfl (H8.mk sa sb sc sd se sf sg sh).vals 25 G2.out (H8.mk sa sb sc sd se sf sg sh).seven (H8.mk sa sa sb sc sd se sf sg).vals rfl SRC.out (Nat.le_refl 8) (one7 _) rfl ?_))
      have hr3 : ((w2.drewN (nq + 1)).setRow w.heap.size (H8.mk sa sa sb sc sd se sf sg).vals.toArray).heap[w.heap.size]? = some (.cells (H8.mk sa sa sb sc sd se sf sg).vals.toArray 25 (0, 0)) := setRow_heap (w2.drewN (nq + 1)) w.heap.size _ _ _ _ G2.out
      obtain ⟨-, -, -, -, c4, -, -, -⟩ := cell8 hr3
      have c0' := (cell8 hr3).1
      have f4 := blk_frozen hr3 4
      have f0 := blk_frozen hr3 0
      have HR3 := Aside0.mk hr3
      simp only at c4 c0'
      have hfin : ∀ X : World, X = (((w2.drewN (nq + 1)).setRow w.heap.size (H8.mk sa sa sb sc sd se sf sg).vals.toArray).setCell ⟨w.heap.size, 4, none⟩ (.int .u32 (((sd : Int) + (t1 : Int)) % 4294967296))).setCell ⟨w.heap.size, 0, none⟩ (.int .u32 (((t1 : Int) + (t2 : Int)) % 4294967296)) → blkRel w S0 W (k + 1) X := by
        rintro X rfl
        have far : ∀ j, j ≠ w.heap.size → ((((w2.drewN (nq + 1)).setRow w.heap.size (H8.mk sa sa sb sc sd se sf sg).vals.toArray).setCell ⟨w.heap.size, 4, none⟩ (.int .u32 (((sd : Int) + (t1 : Int)) % 4294967296))).setCell ⟨w.heap.size, 0, none⟩ (.int .u32 (((t1 : Int) + (t2 : Int)) % 4294967296))).heap[j]? = w2.heap[j]? := fun j hj =>
          (Below.heap_setCell _ ⟨w.heap.size, 0, none⟩ _ j hj).trans ((Below.heap_setCell _ ⟨w.heap.size, 4, none⟩ _ j hj).trans (setRow_other (w2.drewN (nq + 1)) w.heap.size j _ hj))
        refine ⟨?_, (far _ (by omega)).trans G5.out, ⟨z, (far _ (by omega)).trans G4.out⟩, ?_, ?_⟩
        · have h1 := blk_set (blk_set HR3.out 4 (.int .u32 (((sd : Int) + (t1 : Int)) % 4294967296))) 0 (.int .u32 (((t1 : Int) + (t2 : Int)) % 4294967296))
          have h2 : stN W S0 (k + 1) = rndN (H8.mk sa sb sc sd se sf sg sh) x K := by rw [stN, ← HST.out, ← HX.out, ← HKK.out]
          rw [h2, HRN.out]
          have e1 : (((sd + t1) % 4294967296 : Nat) : Int) = ((sd : Int) + (t1 : Int)) % 4294967296 := by omega
          have e2 : (((t1 + t2) % 4294967296 : Nat) : Int) = ((t1 : Int) + (t2 : Int)) % 4294967296 := by omega
          simp only [H8.vals, e1, e2]
          exact h1
        · exact HG.out.below rfl (((below_setRow (pw_below_drewN GB.out (nq + 1)) (Nat.le_refl _) _).setCell (by simp) _).setCell (by simp) _)
        · exact ((below_setRow (pw_below_drewN GB.out (nq + 1)) (Nat.le_refl _) _).setCell (by simp) _).setCell (by simp) _
      have HFIN := Aside0.mk hfin
      clear hfin hr3
      go_wp2
      go_roundw
      case rel => exact ⟨k + 1, by omega, by go_num, ⟨HFIN.out _ rfl⟩⟩
      case measure => simp [intOf]; omega
    · obtain rfl : k = 64 := by omega
      have hok := HOK.out 64
      obtain ⟨st, hst⟩ : ∃ st, st = stN W S0 64 := ⟨_, rfl⟩
      have HST := Aside0.mk hst
      rw [← hst] at hb2 hok
      have hpl : (addN st S0).nats.length = 8 := rfl
      have hql : st.nats.length = 8 := rfl
      have hb20 : wr.heap[w.heap.size]? = some (.cells (over8 (addN st S0).nats st.nats 0).toArray 25 (0, 0)) := hb2
      have HB2 := Aside0.mk hb20
      have HB4 := Aside0.mk hb4
      have HB5 := Aside0.mk hb5
      have HBW := Aside0.mk hbw
      have HOK2 := Aside0.mk hok
      clear hst hb2 hb20 hb4 hb5 hrt hbw hok
      obtain ⟨P, hP⟩ : ∃ P, P = (addN st S0).nats := ⟨_, rfl⟩
      have HP := Aside0.mk hP
      rw [← hP] at hpl HB2
      clear hP
      go_wp2
      obtain ⟨wo, rfl⟩ : ∃ wo : World, wo = wr := ⟨_, rfl⟩
      go_loopw [93] (fun v93 wr => ∃ k : Nat, k ≤ 8 ∧ v93 = .int .i64 (k : Int) ∧ Aside0 (wr.heap[w.heap.size]? = some (.cells (over8 P st.nats k).toArray 25 (0, 0))) ∧ Aside0 (wr.heap[w.heap.size + 1 + 1]? = some (.cells S0.vals.toArray 25 (0, 0))) ∧ Aside0 (wr.heap[w.heap.size + 1]? = some (.cells z.vals.toArray 25 (0, 0))) ∧ Aside0 (Below w.heap.size w wr)) (fun v93 _ => 8 - (intOf v93).toNat)
      case atStart => exact ⟨0, Nat.zero_le _, rfl, HB2, HB5, HB4, HBW⟩
      case round =>
        obtain ⟨k, hk, rfl, HB2, HB5, HB4, HBW⟩ := hrel
        by_cases h8 : k < 8
        · have c2 : wr.cell? ⟨w.heap.size, k, none⟩ = some (.int .u32 ((st.nats.getD k 0 : Nat) : Int)) := by
            rw [blk_cell HB2.out k]; simpa using over8_at hpl hql h8
          have c5 : wr.cell? ⟨w.heap.size + 1 + 1, k, none⟩ = some (.int .u32 ((S0.nats.getD k 0 : Nat) : Int)) := by
            rw [blk_cell HB5.out k]
            have hc : k = 0 ∨ k = 1 ∨ k = 2 ∨ k = 3 ∨ k = 4 ∨ k = 5 ∨ k = 6 ∨ k = 7 := by omega
            rcases hc with rfl | rfl | rfl | rfl | rfl | rfl | rfl | rfl <;> rfl
          have f2 := blk_frozen HB2.out k
          have hv : (P.getD k 0) = (st.nats.getD k 0 + S0.nats.getD k 0) % 4294967296 := by rw [HP.out]; exact addN_nats st S0 k h8
          have l1 := nats_lt HOK2.out k
          have l2 := nats_lt HS.out k
          obtain ⟨u, hu⟩ : ∃ u, u = st.nats.getD k 0 := ⟨_, rfl⟩
          obtain ⟨t, ht⟩ : ∃ t, t = S0.nats.getD k 0 := ⟨_, rfl⟩
          rw [← hu] at c2 hv l1
          rw [← ht] at c5 hv l2
          have HV := Aside0.mk hv
          have kk0 : (k : Int) < 8 := by omega
          clear hv hu ht
          go_wp2
          go_region
          go_wp2
          go_roundw
          case rel =>
            have e1 : ((u : Int) + (t : Int)) % 4294967296 = ((P.getD k 0 : Nat) : Int) := by rw [HV.out]; omega
            refine ⟨k + 1, by omega, by go_num, ⟨?_⟩, ⟨(Below.heap_setCell wr ⟨w.heap.size, k, none⟩ _ _ (by show w.heap.size + 1 + 1 ≠ w.heap.size; omega)).trans HB5.out⟩, ⟨(Below.heap_setCell wr ⟨w.heap.size, k, none⟩ _ _ (by show w.heap.size + 1 ≠ w.heap.size; omega)).trans HB4.out⟩, ⟨(HBW.out.setCell (by simp) _).drew⟩⟩
            rw [e1, ← over8_set hpl hql h8]
            have h1 := blk_set HB2.out k (Value.int .u32 ((P.getD k 0 : Nat) : Int))
            show (wr.setCell _ _).heap[_]? = _
            simpa only [List.setIfInBounds_toArray] using h1
          case measure => simp [intOf]; omega
        · obtain rfl : k = 8 := by omega
          have e8 : over8 P st.nats 8 = (addN st S0).vals := by rw [HP.out]; rfl
          rw [e8] at HB2
          go_wp2_with (first | (with_reducible refine wpList_load_row rfl 25 (.tmp 2) rfl w.heap.size rfl 25 (addN st S0).vals.toArray (0, 0) _ HB2.out Tryd.underlying25 rfl ?aI ?_) | (with_reducible refine wpList_store_row rfl 25 (.tmp 4) (.tmp 105) rfl (w.heap.size + 1) (addN st S0).vals.toArray rfl rfl 25 _ HB4.out ?bI ?bO ?bC ?_))
          case aI => exact size8
          case bI => exact size8
          case bO => rfl
          case bC => rw [H8.vals_nats]; exact u32s_one _
          have hr := setRow_heap wr (w.heap.size + 1) _ (addN st S0).vals.toArray _ _ HB4.out
          rw [← HS0.out, HBL.out, ← HST.out]
          refine bodyPost_ret (v := .agg (addN st S0).vals.toArray) (results_cell_row rfl _ _ (w.heap.size + 1) 25 (addN st S0).vals.toArray (0, 0) _ rfl hr Tryd.underlying25 rfl size8) rfl ⟨rfl, below_setRow HBW.out (by simp) _⟩
theorem block_odd (s : H8) (A0 : Option Addr) (c0 : Nat) (l0 : List Int) (w : World) (hr0 : Kd.C (Kd.int .u8) w A0 l0.length l0) (hl : l0.length ≠ 64) :
    Calls Tryd.prog 26 #[.agg s.vals.toArray, .slice A0 l0.length c0] w fun e w' => e = .returned (.agg s.vals.toArray) ∧ Below w.heap.size w w' := by
  obtain ⟨x0, x1, x2, x3, x4, x5, x6, x7⟩ := s
  have hm := Kd.C_max hr0
  have hb0 : ((l0.length : Int) == 64) = false := beq_eq_false_iff_ne.2 (by omega)
  have hb1 : ((l0.length : Int) != 64) = true := bne_iff_ne.2 (by omega)
  show Calls Tryd.prog 26 #[.agg #[.int .u32 (x0 : Int), .int .u32 (x1 : Int), .int .u32 (x2 : Int), .int .u32 (x3 : Int), .int .u32 (x4 : Int), .int .u32 (x5 : Int), .int .u32 (x6 : Int), .int .u32 (x7 : Int)], .slice A0 l0.length c0] w _
  clear hr0 hl
  go_enter Tryd.func26, Tryd.ntmps26
  go_wp2
  refine bodyPost_ret (v := .agg (H8.mk x0 x1 x2 x3 x4 x5 x6 x7).vals.toArray) (by simp [results, Tryd.results26, H8.vals, go_sem]) rfl ⟨rfl, ?_⟩
  exact ((Below.refl _ w).alloc (Nat.le_refl _) _).alloc (by simp) _
end Go.Proofs.YtfmdpkilgnccfaaDoor.E
