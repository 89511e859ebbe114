/- The document's Block by hand. -/
import Derived.Test.YtfmdpkilgnccfaaDoorRefW
import Derived.Test.YtfmdpkilgnccfaaDoorSha6
namespace Go.Proofs.YtfmdpkilgnccfaaDoor.E
open Go.RowKit Go.Proofs.YtfmdpkilgnccfaaDoorW.PrintWords Go.Proofs.YtfmdpkilgnccfaaDoorW.PrintLast Go.Proofs.YtfmdpkilgnccfaaDoorW.PrintMore Go.Proofs.YtfmdpkilgnccfaaDoor.Pr
set_option linter.unusedVariables false
set_option linter.unusedSimpArgs false
theorem rot_ref (x n : Nat) (i : Int) (hi : (n : Int) = i) (hx : x < 4294967296) (hn : n ≤ 32) (m : Nat) (w : World) :
    Calls Tryd.prog 53 #[.int .u32 (x : Int), .int .u64 i] (w.drewN m) fun e w' => e = .returned (.int .u32 ((rotr x n : Nat) : Int)) ∧ ∃ j, w' = w.drewN j := by
  subst hi
  exact Calls.quiet_of ((wicketmanref02_rot.calls (x : Int) (n : Int) _ (w.drewN m) (ref_rot x n hx hn)).mono fun _ _ ⟨he, hd⟩ => ⟨he, hd.out⟩)
theorem rot_ref2 {m' : Nat} {w : World} {f : FuncId} {args : Array Value} {v : Value} (h : ∀ (m : Nat) (w : World), Calls Tryd.prog f args (w.drewN m) fun e w' => e = .returned v ∧ ∃ j, w' = w.drewN j) {m : Nat} : Calls Tryd.prog f args (w.drewN (m + m')) fun e w' => e = .returned v ∧ ∃ j, w' = w.drewN (m + j) := by
  rw [← World.drewN_drewN]
  refine (h m' (w.drewN m)).mono ?_
  rintro e w' ⟨he, j, hj⟩
  exact ⟨he, j, by rw [hj, World.drewN_drewN]⟩
theorem chX_int (e f g : Nat) (he : e < 4294967296) (hf : f < 4294967296) (hg : g < 4294967296) : bits .xor .u32 (bits .and .u32 (e : Int) (f : Int)) (bits .and .u32 (bits .xor .u32 IntKind.u32.max (e : Int)) (g : Int)) = ((chN e f g : Nat) : Int) := by
  have h1 : 4294967295 ^^^ e < 4294967296 := xor_lt (by decide) he
  rw [not32 e he, and32 _ _ he hf, and32 _ _ h1 hg, xor32 _ _ (and_lt he) (and_lt h1), chX e f g he]
theorem majX_int (a b c : Nat) (ha : a < 4294967296) (hb : b < 4294967296) (hc : c < 4294967296) : bits .xor .u32 (bits .xor .u32 (bits .and .u32 (a : Int) (b : Int)) (bits .and .u32 (a : Int) (c : Int))) (bits .and .u32 (b : Int) (c : Int)) = ((majN a b c : Nat) : Int) := by
  rw [and32 _ _ ha hb, and32 _ _ ha hc, and32 _ _ hb hc, xor32 _ _ (and_lt ha) (and_lt ha), xor32 _ _ (xor_lt (and_lt ha) (and_lt ha)) (and_lt hb), majX]
def rblk (w : World) (X : Nat) (s : H8) (W : List Nat) (k : Nat) (wr : World) : Prop :=
  wr.heap[X]? = some (.cells (stN W s k).vals.toArray 25 (0, 0)) ∧ Below w.heap.size w wr
set_option maxRecDepth 100000 in
set_option maxHeartbeats 8000000 in
theorem rblock_any (s : H8) (hs : s.ok) (A0 : Option Addr) (c0 : Nat) (l0 : List Int) (w : World) (hr0 : Kd.C (Kd.int .u8) w A0 64 l0) (hc0 : 64 ≤ c0) (hall : ∀ x ∈ l0, 0 ≤ x ∧ x ≤ 255) :
    Calls Tryd.prog 27 #[.agg s.vals.toArray, .slice A0 64 c0] w fun e w' => e = .returned (.agg (blockN s l0).vals.toArray) ∧ Below w.heap.size w w' := by
  have hl0 : l0.length = 64 := hr0.1
  have hWl := wordsN_len l0
  have hW3 := wordsN_lt l0 hall
  have hwd := fun (W : World) (hW : Below w.heap.size w W) => wicketmanref02_words.calls 100 A0 c0 l0 (intsN (wordsN l0)) W (by rw [hl0]; exact Kd.C_below hr0 hW) (by omega) (ref_words l0 hall hl0)
  have hrt := fun (W : World) => wicketmanref02_roots.calls (intsN rootsN) W ref_roots
  rw [hl0] at hwd
  have hbl : blockN s l0 = addN (stN (wordsN l0) s 64) s := rfl
  obtain ⟨W, hW⟩ : ∃ W, W = wordsN l0 := ⟨_, rfl⟩
  rw [← hW] at hWl hW3 hbl hwd
  obtain ⟨KK, hKK⟩ : ∃ K, K = rootsN := ⟨_, rfl⟩
  rw [← hKK] at hrt
  have hok := stN_ok W hs
  have HWD := Aside0.mk hwd
  have HRT := Aside0.mk hrt
  have HKK := Aside0.mk hKK
  have HBL := Aside0.mk hbl
  have HWL := Aside0.mk hWl
  have HW3 := Aside0.mk hW3
  have HOK := Aside0.mk hok
  have HS := Aside0.mk hs
  clear hwd hrt hKK hbl hWl hW3 hok hr0 hW hs hall hl0
  obtain ⟨x0, x1, x2, x3, x4, x5, x6, x7⟩ := s
  show Calls Tryd.prog 27 #[.agg #[.int .u32 (x0 : Int), .int .u32 (x1 : Int), .int .u32 (x2 : Int), .int .u32 (x3 : Int), .int .u32 (x4 : Int), .int .u32 (x5 : Int), .int .u32 (x6 : Int), .int .u32 (x7 : Int)], .slice A0 64 c0] w _
  go_enter Tryd.func27, Tryd.ntmps27
  go_wp2_with (go_at_call 51; ((with_reducible refine (HWD.out _ ?hB1).mono ?_)))
  case hB1 => exact ((Below.refl _ w).alloc (Nat.le_refl _) _).alloc (by simp) _
  rintro e w1 ⟨v1, rfl, hR1, hb1⟩
  obtain ⟨A1, c1, rfl, hl1, hC1⟩ := Kd.R_reads hR1
  rw [intsN_len, HWL.out] at hC1 hl1 ⊢
  have g0 : w1.heap[w.heap.size]? = some (.cells (H8.mk x0 x1 x2 x3 x4 x5 x6 x7).vals.toArray 25 (0, 0)) := (hb1.block _ (by simp only [World.size_alloc]; omega)).trans (heap_alloc2_old w _ _)
  have g1 : w1.heap[w.heap.size + 1]? = some (.cells (H8.mk 0 0 0 0 0 0 0 0).vals.toArray 25 (0, 0)) := (hb1.block _ (by simp only [World.size_alloc]; omega)).trans (heap_alloc2_new w _ _)
  have HC1 := Aside0.mk hC1
  have G0 := Aside0.mk g0
  have G1 := Aside0.mk g1
  have HB1 := Aside0.mk (below_step (((Below.refl _ w).alloc (Nat.le_refl _) _).alloc (by simp) _) hb1)
  clear hR1 hC1 g0 g1 hb1
  go_wp2_with (go_at_call 52; ((with_reducible refine (HRT.out _).mono ?_)))
  rintro e w2 ⟨v2, rfl, hR2, hb2⟩
  obtain ⟨A2, c2, rfl, hl2, hC2⟩ := Kd.R_reads hR2
  have hkl : KK.length = 64 := by rw [HKK.out]; rfl
  rw [intsN_len, hkl] at hC2 hl2 ⊢
  have G0 := Aside0.mk ((hb2.block _ (Array.getElem?_eq_some_iff.1 G0.out).1).trans G0.out)
  have G1 := Aside0.mk ((hb2.block _ (Array.getElem?_eq_some_iff.1 G1.out).1).trans G1.out)
  have HB2 := Aside0.mk (below_step HB1.out hb2)
  have HC1 := Aside0.mk (Kd.C_below HC1.out hb2)
  have HC2 := Aside0.mk hC2
  clear hR2 hC2 hb2 hkl
  obtain ⟨ad1, rfl, -⟩ := Kd.at_int HC1.out 0 (by decide) (by decide)
  obtain ⟨ad2, rfl, -⟩ := Kd.at_int HC2.out 0 (by decide) (by decide)
  obtain ⟨S0, hS0⟩ : ∃ S0 : H8, S0 = ⟨x0, x1, x2, x3, x4, x5, x6, x7⟩ := ⟨_, rfl⟩
  rw [← hS0] at G0 HBL HOK HS
  have HS0 := Aside0.mk hS0
  clear hS0
  go_wp2_with (first | (with_reducible refine wpList_load_row rfl 25 (.tmp 2) rfl w.heap.size rfl 25 S0.vals.toArray (0, 0) _ G0.out Tryd.underlying25 rfl (vals_size8 _) ?_) | (with_reducible refine wpList_store_row rfl 25 (.tmp 7) (.tmp 21) rfl w2.heap.size S0.vals.toArray rfl rfl 25 _ (heap_alloc_new w2 _) (vals_size8 _) rfl (vals_one _) ?_))
  go_loopw [8] (fun v8 wr => ∃ k : Nat, k ≤ 64 ∧ v8 = .int .i64 (k : Int) ∧ Aside0 (wr.heap[w2.heap.size]? = some (.cells (stN W S0 k).vals.toArray 25 (0, 0)) ∧ Below w2.heap.size w2 wr)) (fun v8 _ => 64 - (intOf v8).toNat)
  case atStart => exact ⟨0, Nat.zero_le _, rfl, ⟨setRow_heap _ _ _ _ _ _ (heap_alloc_new w2 _), below_setRow ((Below.refl _ w2).alloc (Nat.le_refl _) _) (Nat.le_refl _) _⟩⟩
  case round =>
    obtain ⟨k, hk, rfl, ⟨⟨hb7, hbw⟩⟩⟩ := hrel
    by_cases h64 : k < 64
    · have hok := HOK.out k
      obtain ⟨st, hst⟩ : ∃ st, st = stN W S0 k := ⟨_, rfl⟩
      have HST := Aside0.mk hst
      rw [← hst] at hb7 hok
      obtain ⟨q0, q1, q2, q3, q4, q5, q6, q7⟩ := cell8 hb7
      obtain ⟨_, ea, hxc⟩ := Kd.at_int (Kd.C_below HC1.out hbw) (k : Int) (by omega) (by omega)
      cases ea
      obtain ⟨_, ea, hkc⟩ := Kd.at_int (Kd.C_below HC2.out hbw) (k : Int) (by omega) (by omega)
      cases ea
      rw [rd_ints, Int.toNat_natCast] at hxc hkc
      have hx := HW3.out k
      have hkl : KK.getD k 0 < 4294967296 := by
        rw [HKK.out]
        exact rootsN_lt _ (by
          rw [List.getD_eq_getElem?_getD, List.getElem?_eq_getElem (by rw [rootsN_len]; exact h64)]
          exact List.getElem_mem _)
      obtain ⟨x, hxe⟩ : ∃ x, x = W.getD k 0 := ⟨_, rfl⟩
      obtain ⟨K, hK⟩ : ∃ K, K = KK.getD k 0 := ⟨_, rfl⟩
      rw [← hxe] at hxc hx
      rw [← hK] at hkc hkl
      have HX := Aside0.mk hxe
      have HK := Aside0.mk (show K = rootsN.getD k 0 by rw [hK, HKK.out])
      have f0 := blk_frozen hb7 0
      have f1 := blk_frozen hb7 1
      have f2 := blk_frozen hb7 2
      have f3 := blk_frozen hb7 3
      have f4 := blk_frozen hb7 4
      have f5 := blk_frozen hb7 5
      have f6 := blk_frozen hb7 6
      have f7 := blk_frozen hb7 7
      have HB7 := Aside0.mk hb7
      have HBW := Aside0.mk hbw
      obtain ⟨sa, sb, sc, sd, se, sf, sg, sh⟩ := st
      obtain ⟨ba, bb, bc, bd, be, bf, bg, bh⟩ := hok
      simp only at q0 q1 q2 q3 q4 q5 q6 q7 ba bb bc bd be bf bg bh
      clear hst hxe hK hb7 hbw
      have R6 := Aside0.mk (rot_ref se 6 6 rfl be (by decide))
      have R11 := Aside0.mk (rot_ref se 11 11 rfl be (by decide))
      have R25 := Aside0.mk (rot_ref se 25 25 rfl be (by decide))
      have R2 := Aside0.mk (rot_ref sa 2 2 rfl ba (by decide))
      have R13 := Aside0.mk (rot_ref sa 13 13 rfl ba (by decide))
      have R22 := Aside0.mk (rot_ref sa 22 22 rfl ba (by decide))
      have ht1 : ((sh : Int) + bits .xor .u32 (bits .xor .u32 ((rotr se 6 : Nat) : Int) ((rotr se 11 : Nat) : Int)) ((rotr se 25 : Nat) : Int) + bits .xor .u32 (bits .and .u32 (se : Int) (sf : Int)) (bits .and .u32 (bits .xor .u32 IntKind.u32.max (se : Int)) (sg : Int)) + (K : Int) + (x : Int)) % 4294967296 = ((t1N ⟨sa, sb, sc, sd, se, sf, sg, sh⟩ x K : Nat) : Int) := by
        rw [bS1_int se be, chX_int se sf sg be bf bg]; unfold t1N; simp only; omega
      have ht2 : (bits .xor .u32 (bits .xor .u32 ((rotr sa 2 : Nat) : Int) ((rotr sa 13 : Nat) : Int)) ((rotr sa 22 : Nat) : Int) + bits .xor .u32 (bits .xor .u32 (bits .and .u32 (sa : Int) (sb : Int)) (bits .and .u32 (sa : Int) (sc : Int))) (bits .and .u32 (sb : Int) (sc : Int))) % 4294967296 = ((t2N ⟨sa, sb, sc, sd, se, sf, sg, sh⟩ : Nat) : Int) := by
        rw [bS0_int sa ba, majX_int sa sb sc ba bb bc]; unfold t2N; simp only; omega
      have hrn : rndN ⟨sa, sb, sc, sd, se, sf, sg, sh⟩ x K = ⟨(t1N ⟨sa, sb, sc, sd, se, sf, sg, sh⟩ x K + t2N ⟨sa, sb, sc, sd, se, sf, sg, sh⟩) % 4294967296, sa, sb, sc, (sd + t1N ⟨sa, sb, sc, sd, se, sf, sg, sh⟩ x K) % 4294967296, se, sf, sg⟩ := rfl
      have l1 : t1N ⟨sa, sb, sc, sd, se, sf, sg, sh⟩ x K < 4294967296 := Nat.mod_lt _ (by decide)
      have l2 : t2N ⟨sa, sb, sc, sd, se, sf, sg, sh⟩ < 4294967296 := Nat.mod_lt _ (by decide)
      obtain ⟨t1, h1⟩ : ∃ t, t = t1N ⟨sa, sb, sc, sd, se, sf, sg, sh⟩ x K := ⟨_, rfl⟩
      obtain ⟨t2, h2⟩ : ∃ t, t = t2N ⟨sa, sb, sc, sd, se, sf, sg, sh⟩ := ⟨_, rfl⟩
      rw [← h1] at ht1 hrn l1
      rw [← h2] at ht2 hrn l2
      have T1 := Aside0.mk ht1
      have T2 := Aside0.mk ht2
      have HRN := Aside0.mk hrn
      clear ht1 ht2 hrn h1 h2
      go_wp2
      go_quiet ((go_at_call 53; first | with_reducible exact R6.out _ _ | with_reducible exact R11.out _ _ | with_reducible exact R25.out _ _))
      go_wp2
      rw [T1.out]
      go_quiet ((go_at_call 53; first | with_reducible exact rot_ref2 R2.out | with_reducible exact rot_ref2 R13.out | with_reducible exact rot_ref2 R22.out))
      go_wp2
      go_roundw
      case rel =>
        have h2 : stN W S0 (k + 1) = rndN (H8.mk sa sb sc sd se sf sg sh) x K := by rw [stN, ← HST.out, ← HX.out, ← HK.out]
        have t2v := T2.out
        have hv : ((t1 : Int) + (bits .xor .u32 (bits .xor .u32 ((rotr sa 2 : Nat) : Int) ((rotr sa 13 : Nat) : Int)) ((rotr sa 22 : Nat) : Int) + bits .xor .u32 (bits .xor .u32 (bits .and .u32 (sa : Int) (sb : Int)) (bits .and .u32 (sa : Int) (sc : Int))) (bits .and .u32 (sb : Int) (sc : Int)))) % 4294967296 = (((t1 + t2) % 4294967296 : Nat) : Int) := by
          generalize (bits .xor .u32 (bits .xor .u32 ((rotr sa 2 : Nat) : Int) ((rotr sa 13 : Nat) : Int)) ((rotr sa 22 : Nat) : Int) + bits .xor .u32 (bits .xor .u32 (bits .and .u32 (sa : Int) (sb : Int)) (bits .and .u32 (sa : Int) (sc : Int))) (bits .and .u32 (sb : Int) (sc : Int))) = R at t2v ⊢
          omega
        have e1 : ((sd : Int) + (t1 : Int)) % 4294967296 = (((sd + t1) % 4294967296 : Nat) : Int) := by omega
        refine ⟨k + 1, by omega, by go_num, ⟨?_, ?_⟩⟩
        · rw [hv, e1, h2, HRN.out]
          exact blk_set (blk_set (blk_set (blk_set (blk_set (blk_set (blk_set (blk_set (w := wr.drewN _) HB7.out 0 _) 1 _) 2 _) 3 _) 4 _) 5 _) 6 _) 7 _
        · exact ((((((((pw_below_drewN HBW.out _).setCell (Nat.le_refl _) _).setCell (Nat.le_refl _) _).setCell (Nat.le_refl _) _).setCell (Nat.le_refl _) _).setCell (Nat.le_refl _) _).setCell (Nat.le_refl _) _).setCell (Nat.le_refl _) _).setCell (Nat.le_refl _) _
      case measure => simp [intOf]; omega
    · obtain rfl : k = 64 := by omega
      have hok := HOK.out 64
      obtain ⟨st, hst⟩ : ∃ st, st = stN W S0 64 := ⟨_, rfl⟩
      have HST := Aside0.mk hst
      rw [← hst] at hb7 hok
      have hpl : (addN st S0).nats.length = 8 := rfl
      have hql : st.nats.length = 8 := rfl
      have hb70 : wr.heap[w2.heap.size]? = some (.cells (over8 (addN st S0).nats st.nats 0).toArray 25 (0, 0)) := hb7
      have HB7 := Aside0.mk hb70
      have HBW := Aside0.mk hbw
      have HOK2 := Aside0.mk hok
      have G0 := Aside0.mk ((hbw.block _ (Array.getElem?_eq_some_iff.1 G0.out).1).trans G0.out)
      have G1 := Aside0.mk ((hbw.block _ (Array.getElem?_eq_some_iff.1 G1.out).1).trans G1.out)
      have hsz : w.heap.size + 1 < w2.heap.size := (Array.getElem?_eq_some_iff.1 ‹Aside0 (w2.heap[w.heap.size + 1]? = _)›.out).1
      clear hst hb7 hb70 hbw hok
      obtain ⟨P, hP⟩ : ∃ P, P = (addN st S0).nats := ⟨_, rfl⟩
      have HP := Aside0.mk hP
      rw [← hP] at hpl HB7
      clear hP
      go_wp2
      obtain ⟨wo, hwo⟩ : ∃ wo : World, wo = wr := ⟨_, rfl⟩
      have HSZ := Aside0.mk hsz
      clear hsz
      go_loopw [13] (fun v13 wr => ∃ k : Nat, k ≤ 8 ∧ v13 = .int .i64 (k : Int) ∧ Aside0 (wr.heap[w2.heap.size]? = some (.cells (over8 P st.nats k).toArray 25 (0, 0))) ∧ Aside0 (wr.heap[w.heap.size]? = some (.cells S0.vals.toArray 25 (0, 0))) ∧ Aside0 (wr.heap[w.heap.size + 1]? = some (.cells (H8.mk 0 0 0 0 0 0 0 0).vals.toArray 25 (0, 0))) ∧ Aside0 (Below w2.heap.size w2 wr)) (fun v13 _ => 8 - (intOf v13).toNat)
      case atStart => exact ⟨0, Nat.zero_le _, rfl, HB7, G0, G1, HBW⟩
      case round =>
        obtain ⟨k, hk, rfl, HB7, HB5, HB4, HBW⟩ := hrel
        by_cases h8 : k < 8
        · have c2 : wr.cell? ⟨w2.heap.size, k, none⟩ = some (.int .u32 ((st.nats.getD k 0 : Nat) : Int)) := by
            rw [blk_cell HB7.out k]; simpa using over8_at hpl hql h8
          have c5 : wr.cell? ⟨w.heap.size, k, none⟩ = some (.int .u32 ((S0.nats.getD k 0 : Nat) : Int)) := by
            rw [blk_cell HB5.out k]
            have hc : k = 0 ∨ k = 1 ∨ k = 2 ∨ k = 3 ∨ k = 4 ∨ k = 5 ∨ k = 6 ∨ k = 7 := by omega
            rcases hc with rfl | rfl | rfl | rfl | rfl | rfl | rfl | rfl <;> rfl
          have f2 := blk_frozen HB7.out k
          have hv : (P.getD k 0) = (st.nats.getD k 0 + S0.nats.getD k 0) % 4294967296 := by rw [HP.out]; exact addN_nats st S0 k h8
          have l1 := nats_lt HOK2.out k
          have l2 := nats_lt HS.out k
          obtain ⟨u, hu⟩ : ∃ u, u = st.nats.getD k 0 := ⟨_, rfl⟩
          obtain ⟨t, ht⟩ : ∃ t, t = S0.nats.getD k 0 := ⟨_, rfl⟩
          rw [← hu] at c2 hv l1
          rw [← ht] at c5 hv l2
          have HV := Aside0.mk hv
          have kk0 : (k : Int) < 8 := by omega
          clear hv hu ht hwo
          go_wp2
          go_region
          go_wp2
          go_roundw
          case rel =>
            have e1 : ((u : Int) + (t : Int)) % 4294967296 = ((P.getD k 0 : Nat) : Int) := by rw [HV.out]; omega
            have hsz := HSZ.out
            refine ⟨k + 1, by omega, by go_num, ⟨?_⟩, ⟨(Below.heap_setCell wr ⟨w2.heap.size, k, none⟩ _ _ (by show w.heap.size ≠ w2.heap.size; omega)).trans HB5.out⟩, ⟨(Below.heap_setCell wr ⟨w2.heap.size, k, none⟩ _ _ (by show w.heap.size + 1 ≠ w2.heap.size; omega)).trans HB4.out⟩, ⟨(HBW.out.setCell (by simp) _).drew⟩⟩
            rw [e1, ← over8_set hpl hql h8]
            have h1 := blk_set HB7.out k (Value.int .u32 ((P.getD k 0 : Nat) : Int))
            show (wr.setCell _ _).heap[_]? = _
            simpa only [List.setIfInBounds_toArray] using h1
          case measure => simp [intOf]; omega
        · obtain rfl : k = 8 := by omega
          have e8 : over8 P st.nats 8 = (addN st S0).vals := by rw [HP.out]; rfl
          rw [e8] at HB7
          clear hwo
          go_wp2_with (first | (with_reducible refine wpList_load_row rfl 25 (.tmp 7) rfl w2.heap.size rfl 25 (addN st S0).vals.toArray (0, 0) _ HB7.out Tryd.underlying25 rfl ?aI ?_) | (with_reducible refine wpList_store_row rfl 25 (.tmp 4) (.tmp 118) rfl (w.heap.size + 1) (addN st S0).vals.toArray rfl rfl 25 _ HB4.out ?bI ?bO ?bC ?_))
          case aI => exact size8
          case bI => exact size8
          case bO => rfl
          case bC => rw [H8.vals_nats]; exact u32s_one _
          have hr := setRow_heap wr (w.heap.size + 1) _ (addN st S0).vals.toArray _ _ HB4.out
          rw [← HS0.out, HBL.out, ← HST.out]
          refine bodyPost_ret (v := .agg (addN st S0).vals.toArray) (results_cell_row rfl _ _ (w.heap.size + 1) 25 (addN st S0).vals.toArray (0, 0) _ rfl hr Tryd.underlying25 rfl size8) rfl ⟨rfl, below_setRow (below_step HB2.out HBW.out) (by simp) _⟩
theorem rblock_odd (s : H8) (A0 : Option Addr) (c0 : Nat) (l0 : List Int) (w : World) (hr0 : Kd.C (Kd.int .u8) w A0 l0.length l0) (hl : l0.length ≠ 64) :
    Calls Tryd.prog 27 #[.agg s.vals.toArray, .slice A0 l0.length c0] w fun e w' => e = .returned (.agg s.vals.toArray) ∧ Below w.heap.size w w' := by
  obtain ⟨x0, x1, x2, x3, x4, x5, x6, x7⟩ := s
  have hm := Kd.C_max hr0
  have hb0 : ((l0.length : Int) == 64) = false := beq_eq_false_iff_ne.2 (by omega)
  have hb1 : ((l0.length : Int) != 64) = true := bne_iff_ne.2 (by omega)
  show Calls Tryd.prog 27 #[.agg #[.int .u32 (x0 : Int), .int .u32 (x1 : Int), .int .u32 (x2 : Int), .int .u32 (x3 : Int), .int .u32 (x4 : Int), .int .u32 (x5 : Int), .int .u32 (x6 : Int), .int .u32 (x7 : Int)], .slice A0 l0.length c0] w _
  clear hr0 hl
  go_enter Tryd.func27, Tryd.ntmps27
  go_wp2
  refine bodyPost_ret (v := .agg (H8.mk x0 x1 x2 x3 x4 x5 x6 x7).vals.toArray) (by simp [results, Tryd.results27, H8.vals, go_sem]) rfl ⟨rfl, ?_⟩
  exact ((Below.refl _ w).alloc (Nat.le_refl _) _).alloc (by simp) _
end Go.Proofs.YtfmdpkilgnccfaaDoor.E
