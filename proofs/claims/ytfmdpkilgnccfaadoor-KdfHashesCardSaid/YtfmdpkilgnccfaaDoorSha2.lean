/- sha.words: the sixty-four words of a block. -/
import Derived.Test.YtfmdpkilgnccfaaDoorSha1
import Derived.StillTailTactics
import Derived.Laws.Rows
import Derived.Laws.Tables
import Derived.Laws.CopyOwn
namespace Go.Proofs.YtfmdpkilgnccfaaDoor.E
open Go.RowKit Go.Proofs.YtfmdpkilgnccfaaDoorW.PrintWords Go.Proofs.YtfmdpkilgnccfaaDoorW.PrintLast Go.Proofs.YtfmdpkilgnccfaaDoorW.PrintMore Go.Proofs.YtfmdpkilgnccfaaDoor.Pr
set_option linter.unusedVariables false
set_option linter.unusedSimpArgs false
theorem info5b : (Tryd.prog.info? 5).map (fun i => (i.zero, i.size, i.bytes)) = some (some (.int .u8 0), 1, 1) := by kernel_rfl
def u32s (l : List Nat) : List Value := l.map fun n : Nat => Value.int .u32 (n : Int)
/-- So many words laid, noughts behind them. -/
def laidW (W : List Nat) (k : Nat) : List Value := u32s (W.take k) ++ List.replicate (64 - k) (Value.int .u32 0)
theorem laidW_len {W : List Nat} {k : Nat} (hW : W.length = 64) (hk : k ≤ 64) : (laidW W k).length = 64 := by
  simp only [laidW, u32s, List.length_append, List.length_map, List.length_take, List.length_replicate]; omega
theorem laidW_get {W : List Nat} {k j : Nat} (hW : W.length = 64) (hk : k ≤ 64) (hj : j < k) : (laidW W k)[j]? = some (Value.int .u32 ((W.getD j 0 : Nat) : Int)) := by
  have h1 : j < (u32s (W.take k)).length := by simp only [u32s, List.length_map, List.length_take]; omega
  rw [laidW, List.getElem?_append_left h1]
  simp only [u32s, List.getElem?_map, List.getElem?_take, if_pos hj, List.getD_eq_getElem?_getD]
  rw [List.getElem?_eq_getElem (by omega)]
  rfl
theorem laidW_set {W : List Nat} {k : Nat} (hW : W.length = 64) (hk : k < 64) (u : Value) (hu : u = Value.int .u32 ((W.getD k 0 : Nat) : Int)) : (laidW W k).set k u = laidW W (k + 1) := by
  subst hu
  have h1 : (u32s (W.take k)).length = k := by simp only [u32s, List.length_map, List.length_take]; omega
  have h2 : u32s (W.take (k + 1)) = u32s (W.take k) ++ [Value.int .u32 ((W.getD k 0 : Nat) : Int)] := by
    rw [List.take_succ_eq_append_getElem (by omega)]
    simp only [u32s, List.map_append, List.map_cons, List.map_nil, List.getD_eq_getElem?_getD]
    rw [List.getElem?_eq_getElem (by omega)]
    rfl
  unfold laidW
  rw [List.set_append_right _ _ (by omega), h1, Nat.sub_self, h2, show 64 - k = (64 - (k + 1)) + 1 by omega, List.replicate_succ, List.set_cons_zero, List.append_assoc]
  rfl
theorem shr_i10 (x : Nat) : (x : Int) / (1024 : Int) = ((x >>> 10 : Nat) : Int) := by
  have : x >>> 10 = x / 1024 := Nat.shiftRight_eq_div_pow x 10
  omega
theorem shr_i3 (x : Nat) : (x : Int) / (8 : Int) = ((x >>> 3 : Nat) : Int) := by
  have : x >>> 3 = x / 8 := Nat.shiftRight_eq_div_pow x 3
  omega
theorem size64 : (Tryd.prog.info? 67).map (·.size) = some 64 := by kernel_rfl
theorem u32s_one (l : List Nat) : ((u32s l).toArray.all fun x => x.oneCell') = true := by
  rw [Array.all_eq_true_iff_forall_mem]
  intro v hv
  obtain ⟨n, _, rfl⟩ := List.mem_map.1 (by simpa [u32s] using hv)
  rfl
theorem u32_cast (x : Nat) (h : x < 4294967296) : (x : Int) % 4294967296 = (x : Int) := by omega
set_option maxRecDepth 100000 in
set_option maxHeartbeats 4000000 in
theorem words_any (A0 : Option Addr) (c0 : Nat) (l0 : List Int) (w : World) (hr0 : Kd.C (Kd.int .u8) w A0 64 l0) (hc0 : 64 ≤ c0) (hall : ∀ x ∈ l0, 0 ≤ x ∧ x ≤ 255) :
    Calls Tryd.prog 49 #[.slice A0 64 c0] w fun e w' => e = .returned (.agg (u32s (wordsN l0)).toArray) ∧ Below w.heap.size w w' := by
  have hl0 : l0.length = 64 := hr0.1
  have hWl := wordsN_len l0
  have hW1 := wordsN_first l0
  have hW2 := wordsN_at l0
  have hW3 := wordsN_lt l0 hall
  obtain ⟨W, hW⟩ : ∃ W, W = wordsN l0 := ⟨_, rfl⟩
  rw [← hW] at hWl hW1 hW2 hW3 ⊢
  have HR0 := Aside0.mk hr0
  have HALL := Aside0.mk hall
  have HL := Aside0.mk hl0
  have HW1 := Aside0.mk hW1
  have HW2 := Aside0.mk hW2
  have HW3 := Aside0.mk hW3
  have HWL := Aside0.mk hWl
  clear hr0 hall hl0 hW1 hW2 hW3 hW hWl
  go_enter Tryd.func49, Tryd.ntmps49
  go_wp2
  go_loopw [7] (fun v7 wr => ∃ (k : Nat), k ≤ 64 ∧ v7 = .int .i64 (k : Int) ∧ Aside0 (wr.heap[w.heap.size + 1]? = some (.cells (laidW W k).toArray 67 (0, 0))) ∧ Aside0 (wr.heap[w.heap.size]? = some (.cells (List.replicate 64 (Value.int .u32 0)).toArray 67 (0, 0))) ∧ Aside0 (Below w.heap.size w wr)) (fun v7 _ => 64 - (intOf v7).toNat)
  case atStart =>
    have e : laidW W 0 = List.replicate 64 (Value.int .u32 0) := by simp [laidW, u32s]
    refine ⟨0, by omega, rfl, ⟨?_⟩, ⟨?_⟩, ⟨((Below.refl _ w).alloc (Nat.le_refl _) _).alloc (by simp) _⟩⟩
    · rw [e]; exact heap_alloc2_new w _ _
    · exact heap_alloc2_old w _ _
  case round =>
    obtain ⟨k, hk, rfl, HB, HB0, HBW⟩ := hrel
    have hcell : ∀ j, j < k → wr.cell? ⟨w.heap.size + 1, j, none⟩ = some (.int .u32 ((W.getD j 0 : Nat) : Int)) := fun j hj => by
      rw [blk_cell HB.out j]
      simpa using laidW_get HWL.out hk hj
    have hfz := fun j => blk_frozen HB.out j
    by_cases h64 : k < 64
    · have hlk : (w.heap.size + 1) < wr.heap.size := (Array.getElem?_eq_some_iff.1 HB.out).1
      have ck : wr.cell? ⟨w.heap.size + 1, k, none⟩ = some (.int .u32 0) := by
        rw [blk_cell HB.out k]
        have h1 : (u32s (W.take k)).length = k := by have := HWL.out; simp only [u32s, List.length_map, List.length_take]; omega
        have h2 : (laidW W k)[k]? = some (Value.int .u32 0) := by
          unfold laidW
          rw [List.getElem?_append_right (by omega), h1, Nat.sub_self, show 64 - k = (64 - (k + 1)) + 1 by omega, List.replicate_succ]
          rfl
        simpa using h2
      have f1 := hfz k
      have hx := HW3.out k
      obtain ⟨x, hxe⟩ : ∃ x, x = W.getD k 0 := ⟨_, rfl⟩
      have HX := Aside0.mk hxe
      rw [← hxe] at hx
      have hxm := u32_cast x hx
      have fin : ∀ wx : World, wx = wr.setCell ⟨w.heap.size + 1, k, none⟩ (Value.int .u32 (x : Int)) → wx.heap[w.heap.size + 1]? = some (.cells (laidW W (k + 1)).toArray 67 (0, 0)) := by
        rintro wx rfl
        have := blk_set HB.out k (Value.int .u32 (x : Int))
        rw [← laidW_set HWL.out h64 (Value.int .u32 (x : Int)) (by rw [HX.out])]
        simpa using this
      have FIN := Aside0.mk fin
      by_cases h16 : k < 16
      · obtain ⟨ad, rfl, -⟩ := Kd.at_int HR0.out 0 (by omega) (by omega)
        have hg := get_sub (Kd.C_below (by have := HR0.out; rwa [← HL.out] at this) HBW.out) HALL.out (4 * k) 4 (c0 - 4 * k) (by rw [HL.out]; omega) (by omega) (by omega)
        rw [← HW1.out k h16, ← HX.out] at hg
        have e4 : ad.add (4 * k) = ad.add (k * 4) := by rw [Nat.mul_comm]
        rw [e4, Nat.mul_comm 4 k] at hg
        have HG := Aside0.mk hg
        clear hcell hfz hg hxe e4 fin
        go_wp2_with (go_at_call 61; refine (HG.out).mono ?_; rintro e w' ⟨rfl, rfl⟩)
        go_roundw
        case rel => exact ⟨k + 1, by omega, by go_num, ⟨FIN.out _ rfl⟩, ⟨(Below.heap_setCell _ ⟨w.heap.size + 1, k, none⟩ _ w.heap.size (by simp)).trans HB0.out⟩, ⟨HBW.out.setCell (by simp) _⟩⟩
        case measure => simp [intOf]; omega
      · have c15 := hcell (k - 15) (by omega)
        have c2 := hcell (k - 2) (by omega)
        have t15 : ((k : Int) - 15).toNat = k - 15 := by omega
        have t2 : ((k : Int) - 2).toNat = k - 2 := by omega
        obtain ⟨x15, h15⟩ : ∃ x, x = W.getD (k - 15) 0 := ⟨_, rfl⟩
        obtain ⟨x2, h2⟩ : ∃ x, x = W.getD (k - 2) 0 := ⟨_, rfl⟩
        have b15 := HW3.out (k - 15)
        have b2 := HW3.out (k - 2)
        rw [← h15] at c15 b15
        rw [← h2] at c2 b2
        have H15 := Aside0.mk h15
        have H2 := Aside0.mk h2
        have HC := Aside0.mk hcell
        clear hcell hfz h15 h2 hxe fin
        go_wp2
        go_quiet (fail)
        go_wp2_with (go_at_call 50; first | (refine (turn_any x2 17 b2 (by decide) _).mono ?_; rintro e w' ⟨rfl, rfl⟩) | (refine (turn_any x2 19 b2 (by decide) _).mono ?_; rintro e w' ⟨rfl, rfl⟩))
        obtain ⟨w1, hw1⟩ : ∃ w1, w1 = (wr.drewN nq).setCell ⟨w.heap.size + 1, k, none⟩ (Value.int .u32 (bits .xor .u32 (bits .xor .u32 ((rotr x2 17 : Nat) : Int) ((rotr x2 19 : Nat) : Int)) ((x2 : Int) / 1024))) := ⟨_, rfl⟩
        rw [← hw1]
        have r17 := rotr_lt 17 b2
        have r19 := rotr_lt 19 b2
        have hs1 : bits .xor .u32 (bits .xor .u32 ((rotr x2 17 : Nat) : Int) ((rotr x2 19 : Nat) : Int)) ((x2 : Int) / 1024) = ((lS1 x2 : Nat) : Int) := by
          rw [xor32 _ _ r17 r19, shr_i10 x2, xor32 _ _ (xor_lt r17 r19) (shr_lt 10 b2)]
          rfl
        rw [hs1] at hw1
        have g1 : w1.heap[w.heap.size + 1]? = some (.cells ((laidW W k).set k (Value.int .u32 ((lS1 x2 : Nat) : Int))).toArray 67 (0, 0)) := by
          rw [hw1]
          have := blk_set (w := wr.drewN nq) HB.out k (Value.int .u32 ((lS1 x2 : Nat) : Int))
          simpa using this
        have ll := laidW_len HWL.out hk
        have cell1 : ∀ j, j < k → w1.cell? ⟨w.heap.size + 1, j, none⟩ = some (.int .u32 ((W.getD j 0 : Nat) : Int)) := fun j hj => by
          rw [blk_cell g1 j]
          have := laidW_get HWL.out hk hj
          simpa [List.getElem?_set, show k ≠ j by omega] using this
        have ck1 : w1.cell? ⟨w.heap.size + 1, k, none⟩ = some (.int .u32 ((lS1 x2 : Nat) : Int)) := by
          rw [blk_cell g1 k]
          simp [List.getElem?_set, ll, h64]
        have fk1 := blk_frozen g1 k
        have d7 := cell1 (k - 7) (by omega)
        have d16 := cell1 (k - 16) (by omega)
        have t7 : ((k : Int) - 7).toNat = k - 7 := by omega
        have t16 : ((k : Int) - 16).toNat = k - 16 := by omega
        obtain ⟨x7, h7⟩ : ∃ x, x = W.getD (k - 7) 0 := ⟨_, rfl⟩
        obtain ⟨x16, h16b⟩ : ∃ x, x = W.getD (k - 16) 0 := ⟨_, rfl⟩
        obtain ⟨s1, hs1v⟩ : ∃ x, x = lS1 x2 := ⟨_, rfl⟩
        have b7 := HW3.out (k - 7)
        have b16 := HW3.out (k - 16)
        rw [← h7] at d7 b7
        rw [← h16b] at d16 b16
        rw [← hs1v] at ck1 g1
        have H7 := Aside0.mk h7
        have H16 := Aside0.mk h16b
        have HS1 := Aside0.mk hs1v
        have G1 := Aside0.mk g1
        have hb1 : Below w.heap.size w w1 := by
          rw [hw1]; exact (pw_below_drewN HBW.out nq).setCell (by simp) _
        have HB1 := Aside0.mk hb1
        have HB01 := Aside0.mk (show w1.heap[w.heap.size]? = some (.cells (List.replicate 64 (Value.int .u32 0)).toArray 67 (0, 0)) from by rw [hw1]; exact (Below.heap_setCell (wr.drewN nq) ⟨w.heap.size + 1, k, none⟩ _ w.heap.size (by simp)).trans HB0.out)
        clear hw1 hs1 g1 ll cell1 h7 h16b hs1v hb1 c15 c2 t15 t2 r17 r19 ck f1 hlk
        have i7 : IntKind.i64.wrap ((k : Int) - 7) = (k : Int) - 7 := IntWalk.i64_in _ (by omega)
        have i16 : IntKind.i64.wrap ((k : Int) - 16) = (k : Int) - 16 := IntWalk.i64_in _ (by omega)
        have i7a : 0 ≤ (k : Int) - 7 := by omega
        have i7b : (k : Int) - 7 < 64 := by omega
        have i16a : 0 ≤ (k : Int) - 16 := by omega
        have i16b : (k : Int) - 16 < 64 := by omega
        have kk0 : (k : Int) < 64 := by omega
        have i7c : 7 ≤ (k : Int) := by omega
        have i16c : 16 ≤ (k : Int) := by omega
        go_still_tail 23, (by kernel_rfl)
        still_call (turn_any x15 7 b15 (by decide) _)
        repeat still_step
        still_call (turn_any x15 18 b15 (by decide) _)
        repeat still_step
        refine wpStill_nil ?_
        change wpList _ _ _ _ _ w1.drew
        go_wp2
        go_roundw
        case rel =>
          have hv : ((s1 : Int) + ((x7 : Int) + (x16 : Int) + bits .xor .u32 (bits .xor .u32 ((rotr x15 7 : Nat) : Int) ((rotr x15 18 : Nat) : Int)) ((x15 : Int) / 8))) % 4294967296 = (x : Int) := by
            have r7 := rotr_lt 7 b15
            have r18 := rotr_lt 18 b15
            rw [shr_i3, xor32 _ _ r7 r18, xor32 _ _ (xor_lt r7 r18) (shr_lt 3 b15), HX.out, HW2.out k (by omega) h64, ← H15.out, ← H2.out, ← H7.out, ← H16.out, ← HS1.out]
            have : lS0 x15 = rotr x15 7 ^^^ rotr x15 18 ^^^ x15 >>> 3 := rfl
            rw [this]
            omega
          refine ⟨k + 1, by omega, by go_num, ⟨?_⟩, ⟨(Below.heap_setCell w1 ⟨w.heap.size + 1, k, none⟩ _ w.heap.size (by simp)).trans HB01.out⟩, ⟨(HB1.out.setCell (by simp) _).drew⟩⟩
          rw [hv, ← laidW_set HWL.out h64 (Value.int .u32 (x : Int)) (by rw [HX.out])]
          have := blk_set (w := w1) G1.out k (Value.int .u32 (x : Int))
          show (w1.setCell _ _).heap[_]? = _
          simpa using this
        case measure => simp [intOf]; omega
    · obtain rfl : k = 64 := by omega
      clear hcell hfz
      have e64 : laidW W 64 = u32s W := by
        unfold laidW
        rw [List.take_of_length_le (by rw [HWL.out]; exact Nat.le_refl _)]
        simp
      rw [e64] at HB
      have hz : (u32s W).toArray.size = 64 := by simp [u32s, HWL.out]
      go_wp2_with (first | (with_reducible refine wpList_load_row rfl 67 (.tmp 3) rfl (w.heap.size + 1) rfl 67 (u32s W).toArray (0, 0) _ HB.out Tryd.underlying67 rfl ?aI ?_) | (with_reducible refine wpList_store_row rfl 67 (.tmp 2) (.tmp 65) rfl w.heap.size (u32s W).toArray rfl rfl 67 _ HB0.out ?bI ?bO ?bC ?_))
      case aI => rw [hz]; exact size64
      case bI => rw [hz]; exact size64
      case bO => rw [hz]; rfl
      case bC => exact u32s_one W
      have hr := setRow_heap wr w.heap.size _ (u32s W).toArray _ _ HB0.out
      refine bodyPost_ret (v := .agg (u32s W).toArray) (results_cell_row rfl _ _ w.heap.size 67 (u32s W).toArray (0, 0) _ rfl hr Tryd.underlying67 rfl (by rw [hz]; exact size64)) rfl ⟨rfl, below_setRow HBW.out (Nat.le_refl _) _⟩
end Go.Proofs.YtfmdpkilgnccfaaDoor.E
