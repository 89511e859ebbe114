/- The document's Sum by hand. -/
import Derived.Test.YtfmdpkilgnccfaaDoorRowsB
import Derived.Test.YtfmdpkilgnccfaaDoorRefB
import Derived.Deep.RegionWith
import Derived.Deep.DrawnRows
import Derived.IntWalk
namespace Go.Proofs.YtfmdpkilgnccfaaDoor.E
open Go.RowKit Go.Proofs.YtfmdpkilgnccfaaDoorW.PrintWords Go.Proofs.YtfmdpkilgnccfaaDoorW.PrintLast Go.Proofs.YtfmdpkilgnccfaaDoorW.PrintMore Go.Proofs.YtfmdpkilgnccfaaDoor.Pr
set_option linter.unusedVariables false
set_option linter.unusedSimpArgs false
attribute [local go_sem ↓] Go.wp_at_zero Go.wp_at_succ
set_option maxHeartbeats 8000000 in
set_option maxRecDepth 100000 in
theorem rsum_any (A : Option Addr) (c : Nat) (l : List Int) (W : World) (hr : Kd.C (Kd.int .u8) W A l.length l) (hc : l.length ≤ c) (hl : l.length ≤ 1000000) (hb : ∀ x ∈ l, 0 ≤ x ∧ x ≤ 255) :
    Calls Tryd.prog 23 #[.slice A l.length c] W fun e w' => ∃ v0_ : Value, e = .returned v0_ ∧ Kd.R (Kd.int .u8) 5 w' W.heap.size (fun _ => True) v0_ (shaL l) ∧ Below W.heap.size W w' := by
  have HR := Aside0.mk hr
  have hpad := fun (X : World) => wicketmanref02_Pad.calls 120 (l.length : Int) (padL l.length) X (ref_pad l.length (by omega) 120 (Nat.le_refl _))
  have hpl := padL_len l.length
  have hpl2 : (padL l.length).length ≤ 72 := by omega
  have HPAD := Aside0.mk hpad
  have HPL := Aside0.mk hpl
  have HALL := Aside0.mk hb
  clear hr hb hpad hpl
  go_enter Tryd.func23, Tryd.ntmps23
  go_wp2_with (at_builtin; refine Kd.R_append_rows (Kd.int .u8) (w0 := W) W.heap.size rfl (.tmp 10) (.tmp 11) 22 5 (.int .u8 0) 1 rfl Tryd.underlying22 info5b rfl (by decide) (by omega) (.slice none 0 0) [] l _ _ _ (fun _ => True) (fun _ => False) rfl rfl (Kd.R_nil _ _ _ _ _) HR.out (fun _ _ h => h) (fun _ h => h.elim) (fun _ _ => trivial) (Below.refl _ _) (Nat.le_refl _) (by simp; omega) ?_)
  intro v1 w1 hR1 hb1 _ _
  obtain ⟨A1, c1, rfl⟩ := Kd.R_slice hR1
  have HR1 := Aside0.mk hR1
  have HB1 := Aside0.mk hb1
  clear hR1 hb1
  go_wp2_with (go_at_call 25; ((with_reducible refine (HPAD.out _).mono ?_)))
  rintro e w2 ⟨v2, rfl, hR2, hb2⟩
  obtain ⟨A2, c2, rfl, hl2, hC2⟩ := Kd.R_reads hR2
  have HB2 := Aside0.mk (below_step HB1.out hb2)
  have HR12 := Aside0.mk (Kd.R_below HR1.out hb2)
  have HC2 := Aside0.mk hC2
  clear hR2 hb2 hC2 hl2 HR1 HB1
  go_wp2_with (at_builtin; refine Kd.R_append_rows (Kd.int .u8) (w0 := W) W.heap.size rfl (.tmp 17) (.tmp 18) 22 5 (.int .u8 0) 1 rfl Tryd.underlying22 info5b rfl (by decide) (by omega) (.slice A1 l.length c1) l (padL l.length) _ _ _ (fun _ => True) (fun _ => False) rfl rfl HR12.out HC2.out (fun _ _ h => h) (fun _ h => h.elim) (fun _ _ => trivial) HB2.out HB2.out.size (by omega) ?_)
  intro v3 w3 hR3 hb3 _ _
  obtain ⟨ys, hys⟩ : ∃ ys, ys = l ++ padL l.length := ⟨_, rfl⟩
  have hyl : ys.length = 64 * blocks l.length := by rw [hys, List.length_append, HPL.out]; exact blocks_eq _
  have hyb : ∀ x ∈ ys, 0 ≤ x ∧ x ≤ 255 := by
    intro x hx
    rw [hys] at hx
    rcases List.mem_append.1 hx with h | h
    · exact HALL.out x h
    · exact padL_bytes _ x h
  have hyl2 : ys.length ≤ 1000072 := by rw [hys, List.length_append]; omega
  rw [← hys] at hR3
  have hsha : shaL l = digL (runB ivH ys (blocks l.length)).nats := by rw [hys]; rfl
  obtain ⟨m, hm⟩ : ∃ m, m = blocks l.length := ⟨_, rfl⟩
  rw [← hm] at hyl hsha
  obtain ⟨A3, c3, rfl, hl3, hC3⟩ := Kd.R_reads hR3
  rw [hyl] at hl3 hC3 ⊢
  rw [hyl] at hyl2
  have HC3 := Aside0.mk hC3
  have HCL := Aside0.mk hl3
  have HB3 := Aside0.mk hb3
  have HYL := Aside0.mk hyl
  have HYB := Aside0.mk hyb
  have HSHA := Aside0.mk hsha
  clear hR3 hb3 HR12 HB2 HC2 hys hyl hyb hsha hm HPL HALL hl3 hC3
  go_wp2
  go_loopw [6] (fun v6 wr => ∃ i : Nat, i ≤ m ∧ v6 = .int .i64 (64 * (i : Int)) ∧ Aside0 (wr.heap[w3.heap.size]? = some (.cells (runB ivH ys i).vals.toArray 25 (0, 0)) ∧ Below w3.heap.size w3 wr)) (fun v6 _ => ys.length - (intOf v6).toNat)
  case atStart => exact ⟨0, Nat.zero_le _, rfl, ⟨heap_alloc_new w3 _, (Below.refl _ w3).alloc (Nat.le_refl _) _⟩⟩
  case round =>
    obtain ⟨i, him, rfl, ⟨⟨hh, hbw⟩⟩⟩ := hrel
    by_cases hlt : i < m
    · have hC := Kd.C_below HC3.out hbw
      obtain ⟨ad, rfl, -⟩ := Kd.at_int hC 0 (by omega) (by have := HYL.out; omega)
      have hx := C_sub (l := ys) (by have := HYL.out; rw [← this] at hC; exact hC) (64 * i) 64 (by have := HYL.out; omega)
      obtain ⟨x, hxe⟩ : ∃ x, x = (ys.drop (64 * i)).take 64 := ⟨_, rfl⟩
      have hxb : ∀ z ∈ x, 0 ≤ z ∧ z ≤ 255 := by rw [hxe]; exact fun z hz => HYB.out z (List.mem_of_mem_drop (List.mem_of_mem_take hz))
      have hstep : runB ivH ys (i + 1) = blockN (runB ivH ys i) x := by rw [hxe]; unfold runB; rw [chunksL_succ, List.foldl_append]; rfl
      have hok : (runB ivH ys i).ok := foldB_ok ivH_ok _
      rw [← hxe] at hx
      obtain ⟨st, hst⟩ : ∃ st, st = runB ivH ys i := ⟨_, rfl⟩
      rw [← hst] at hh hok hstep
      have hblk := fun (X : World) (hX : Below wr.heap.size wr X) => rblock_any st hok (some (ad.add (64 * i))) (c3 - 64 * i) x X (Kd.C_below hx hX) (by have := HYL.out; have := HCL.out; omega) hxb
      have HH := Aside0.mk hh
      have HBW := Aside0.mk hbw
      have HSTEP := Aside0.mk hstep
      obtain ⟨sa, sb, sc, sd, se, sf, sg, sh⟩ := st
      obtain ⟨q0, q1, q2, q3, q4, q5, q6, q7⟩ := cell8 hh
      have HBLK := Aside0.mk hblk
      have hci : c3 ≠ 64 * i := by have := HYL.out; have := HCL.out; omega
      have hle : (64 * (i : Int)) + 64 ≤ 64 * (m : Int) := by omega
      have hle2 : (64 * (i : Int)) < 64 * (m : Int) := by omega
      have hcut : ∀ X : World, (Instr.slice 22 (.slice (some ad) (64 * m) c3) (some (.int .i64 (64 * (i : Int)))) (some (.int .i64 (64 * (i : Int) + 64))) none).run Tryd.prog X = .ok (.slice (some (ad.add (64 * i))) 64 (c3 - 64 * i)) X := by
        obtain ⟨i0, hi0, hz0, hz1, hz2⟩ := info_parts info5b
        have h := cut_mid (P := Tryd.prog) 22 5 .i64 .i64 Tryd.underlying22 hi0 1 hz1 (some ad) (64 * m) c3 (64 * (i : Int)) (64 * (i : Int) + 64) (by omega) (by omega) (by omega) HCL.out
        have e1 : (64 * (i : Int)).toNat = 64 * i := by omega
        have e2 : (64 * (i : Int) + 64).toNat = 64 * i + 64 := by omega
        rw [e1, e2, if_neg hci, Option.map_some, Nat.mul_one, show 64 * i + 64 - 64 * i = 64 by omega] at h
        exact h
      have hcl := HCL.out
      have iw1 : IntKind.i64.wrap (64 * (i : Int) + 64) = 64 * (i : Int) + 64 := IntWalk.i64_in _ (by omega)
      have iw2 : (0 : Int) ≤ 64 * (i : Int) + 64 := by omega
      have iw3 : 64 * (i : Int) + 64 ≤ (c3 : Int) := by omega
      have iw4 : (0 : Int) ≤ 64 * (i : Int) := by omega
      have iw5 : max (64 * (i : Int) + 64) 0 = 64 * (i : Int) + 64 := Int.max_eq_left iw2
      have iw6 : (64 * (i : Int)).toNat = 64 * i := by omega
      have iw7 : (64 * (i : Int) + 64).toNat = 64 * i + 64 := by omega
      have iw8 : 64 * (i : Int) ≤ 64 * (i : Int) + 64 := by omega
      clear hx hxe hxb hstep hok hst hblk hh hbw hC hcl
      go_wp2
      obtain ⟨S1, hS1⟩ : ∃ S1, S1 = blockN ⟨sa, sb, sc, sd, se, sf, sg, sh⟩ x := ⟨_, rfl⟩
      have HBLK2 : ∀ X, Below wr.heap.size wr X → Calls Tryd.prog 27 #[.agg #[.int .u32 (sa : Int), .int .u32 (sb : Int), .int .u32 (sc : Int), .int .u32 (sd : Int), .int .u32 (se : Int), .int .u32 (sf : Int), .int .u32 (sg : Int), .int .u32 (sh : Int)], .slice (some (ad.add (64 * i))) 64 (c3 - 64 * i)] X fun e w' => e = .returned (.agg S1.vals.toArray) ∧ Below X.heap.size X w' := by rw [hS1]; exact HBLK.out
      have HBLK := Aside0.mk HBLK2
      have HSTEP := Aside0.mk (show runB ivH ys (i + 1) = S1 by rw [hS1]; exact HSTEP.out)
      clear HBLK2 hS1
      obtain ⟨ta, tb, tc, td, te, tf, tg, th⟩ := S1
      simp only [H8.vals] at HBLK
      go_region_with (go_at_call 27; (refine (HBLK.out _ (Below.refl _ _).drew).mono ?_; rintro e w5 ⟨rfl, hb5⟩); have g5 := (hb5.block _ (Array.getElem?_eq_some_iff.1 HH.out).1).trans HH.out; obtain ⟨p0, p1, p2, p3, p4, p5, p6, p7⟩ := cell8 g5; have f0 := blk_frozen g5 0; have f1 := blk_frozen g5 1; have f2 := blk_frozen g5 2; have f3 := blk_frozen g5 3; have f4 := blk_frozen g5 4; have f5 := blk_frozen g5 5; have f6 := blk_frozen g5 6; have f7 := blk_frozen g5 7; have G5 := Aside0.mk g5; have HB5 := Aside0.mk (below_step HBW.out.drew hb5); clear hb5 g5 HBLK)
      go_wp2
      go_roundw
      case rel =>
        refine ⟨i + 1, by omega, by go_num, ⟨?_, ?_⟩⟩
        · rw [HSTEP.out]
          exact blk_set (blk_set (blk_set (blk_set (blk_set (blk_set (blk_set (blk_set G5.out 0 _) 1 _) 2 _) 3 _) 4 _) 5 _) 6 _) 7 _
        · exact (((((((HB5.out.setCell (Nat.le_refl _) _).setCell (Nat.le_refl _) _).setCell (Nat.le_refl _) _).setCell (Nat.le_refl _) _).setCell (Nat.le_refl _) _).setCell (Nat.le_refl _) _).setCell (Nat.le_refl _) _).setCell (Nat.le_refl _) _
      case measure => have := HYL.out; simp [intOf]; omega
    · obtain rfl : i = m := by omega
      have hok : (runB ivH ys i).ok := foldB_ok ivH_ok _
      have hsh := HSHA.out
      obtain ⟨st, hst⟩ : ∃ st, st = runB ivH ys i := ⟨_, rfl⟩
      rw [← hst] at hh hok hsh
      have HH := Aside0.mk hh
      have HBW := Aside0.mk (below_step HB3.out hbw)
      have HSH := Aside0.mk hsh
      have HOK := Aside0.mk hok
      clear hst hh hbw hok hsh
      obtain ⟨w4, hw4⟩ : ∃ w4 : World, w4 = wr := ⟨_, rfl⟩
      subst hw4
      go_wp2
      go_loopw [7, 8] (fun v7 v8 wx => ∃ (k : Nat), k ≤ 8 ∧ v8 = .int .i64 (k : Int) ∧ Aside0 (Kd.R (Kd.int .u8) 5 wx w4.heap.size (fun _ => True) v7 (digL (st.nats.take k)) ∧ Below w4.heap.size w4 wx)) (fun _ v8 _ => 8 - (intOf v8).toNat)
      case atStart => exact ⟨0, Nat.zero_le _, rfl, ⟨Kd.R_nil _ _ _ _ _, Below.refl _ _⟩⟩
      case round =>
        obtain ⟨k, hk, rfl, ⟨⟨hR, hbx⟩⟩⟩ := hrel
        obtain ⟨A6, c6, rfl⟩ := Kd.R_slice hR
        have hdl : (digL (st.nats.take k)).length = 4 * k := by
          have : (st.nats.take k).length = k := by rw [List.length_take]; show min k 8 = k; omega
          have e : ∀ l : List Nat, (digL l).length = 4 * l.length := by
            intro l
            induction l with
            | nil => rfl
            | cons a l ih => show (beN a 4 ++ digL l).length = _; rw [List.length_append, beN_length, ih, List.length_cons]; omega
          rw [e, this]
        by_cases h8 : k < 8
        · have hn := nats_lt HOK.out k
          have hcell : wr.cell? ⟨w3.heap.size, k, none⟩ = some (.int .u32 ((st.nats.getD k 0 : Nat) : Int)) := by
            rw [blk_cell ((hbx.block _ (Array.getElem?_eq_some_iff.1 HH.out).1).trans HH.out) k]
            have hc : k = 0 ∨ k = 1 ∨ k = 2 ∨ k = 3 ∨ k = 4 ∨ k = 5 ∨ k = 6 ∨ k = 7 := by omega
            rcases hc with rfl | rfl | rfl | rfl | rfl | rfl | rfl | rfl <;> rfl
          have hdk : digL (st.nats.take (k + 1)) = digL (st.nats.take k) ++ beN (st.nats.getD k 0) 4 := by
            have h7 : k < st.nats.length := h8
            rw [List.take_succ_eq_append_getElem h7]
            have : ∀ a b : List Nat, digL (a ++ b) = digL a ++ digL b := fun a b => by simp [digL]
            rw [this]
            simp [digL, List.getD_eq_getElem?_getD, h7]
          obtain ⟨n, hnn⟩ : ∃ n, n = st.nats.getD k 0 := ⟨_, rfl⟩
          rw [← hnn] at hcell hn hdk
          have hput := fun X : World => wicketmanref01_Put.calls 50 (n : Int) 4 (beN n 4) X (ref_put4 n (by omega) 50 (Nat.le_refl _))
          have hwn : IntKind.u64.wrap (n : Int) = (n : Int) := wraps_u64 _ (by omega) (by omega)
          have kk0 : (k : Int) < 8 := by omega
          have HRR := Aside0.mk hR
          have HBW2 := Aside0.mk hbx
          have HDK := Aside0.mk hdk
          have HPUT := Aside0.mk hput
          have HDL := Aside0.mk hdl
          clear hR hbx hdk hput hnn hdl
          go_wp2_with (go_at_call 48; ((with_reducible refine (HPUT.out _).mono ?_)))
          rintro e w8 ⟨v8, rfl, hR8, hb8⟩
          obtain ⟨A8, c8, rfl, hl8, hC8⟩ := Kd.R_reads hR8
          have HB8 := Aside0.mk (below_step HBW2.out hb8)
          have HR8 := Aside0.mk (Kd.R_below HRR.out hb8)
          have HC8 := Aside0.mk hC8
          clear hR8 hb8 hC8 hl8
          have H4 := Aside0.mk (beN_length n 4)
          go_wp2_with (at_builtin; refine Kd.R_append_rows (Kd.int .u8) (w0 := w4) w4.heap.size rfl (.tmp 43) (.tmp 44) 22 5 (.int .u8 0) 1 rfl Tryd.underlying22 info5b rfl (by decide) (by omega) (.slice A6 (digL (st.nats.take k)).length c6) (digL (st.nats.take k)) (beN n 4) _ _ _ (fun _ => True) (fun _ => False) rfl rfl HR8.out HC8.out (fun _ _ h => h) (fun _ h => h.elim) (fun _ _ => trivial) HB8.out HB8.out.size (by have := HDL.out; have := H4.out; omega) ?_; intro v9 w9 hR9 hb9 _ _; have HR9 := Aside0.mk hR9; have HB9 := Aside0.mk hb9; clear hR9 hb9)
          go_roundw
          case rel => exact ⟨k + 1, by omega, by go_num, ⟨by rw [HDK.out]; exact HR9.out, HB9.out⟩⟩
          case measure => simp [intOf]; omega
        · obtain rfl : k = 8 := by omega
          have e8 : digL (st.nats.take 8) = shaL l := by rw [HSH.out]; rfl
          rw [e8] at hR hdl ⊢
          have HRR := Aside0.mk hR
          have HBX := Aside0.mk hbx
          clear hR hbx e8 hdl
          go_wp2
          go_ret
          exact ⟨_, rfl, Kd.R_lower HRR.out HBW.out.size, below_step HBW.out HBX.out⟩

def wicketmanref02_Sum.f (k : Nat) (l0 : List Int) : Option (List Int) := if l0.length ≤ 1000000 ∧ ∀ x ∈ l0, 0 ≤ x ∧ x ≤ 255 then some (shaL l0) else none
theorem wicketmanref02_Sum.calls (k : Nat) (A0 : Option Addr) (c0 : Nat) (l0 : List Int) (r : List Int) (w : World) (hr0 : Kd.C (Kd.int .u8) w A0 l0.length l0) (hc0 : l0.length ≤ c0) (h : wicketmanref02_Sum.f k l0 = some r) :
    Calls Tryd.prog 23 #[.slice A0 l0.length c0] w fun e w' => ∃ v0_ : Value, e = .returned (v0_) ∧ Kd.R (Kd.int .u8) 5 w' w.heap.size (fun _ => True) v0_ r ∧ Below w.heap.size w w' := by
  unfold wicketmanref02_Sum.f at h
  split at h
  · rename_i h2
    obtain rfl := Option.some.inj h
    exact rsum_any A0 c0 l0 w hr0 hc0 h2.1 h2.2
  · exact absurd h (by simp)
end Go.Proofs.YtfmdpkilgnccfaaDoor.E
