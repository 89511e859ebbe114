/- ShaChain by hand: a sum is what Blocks make of all 64 bytes, one behind the other, with the pad behind. -/
import Derived.Test.YtfmdpkilgnccfaaDoorRowsB
import Derived.Deep.RegionWith
import Derived.Deep.DrawnRows
import Derived.IntWalk
namespace Go.Proofs.YtfmdpkilgnccfaaDoor.Pure
open Go.RowKit Go.Proofs.YtfmdpkilgnccfaaDoorW.PrintWords Go.Proofs.YtfmdpkilgnccfaaDoorW.PrintLast Go.Proofs.YtfmdpkilgnccfaaDoorW.PrintMore Go.Proofs.YtfmdpkilgnccfaaDoor.Pr Go.Proofs.YtfmdpkilgnccfaaDoor.E
set_option linter.unusedVariables false
set_option linter.unusedSimpArgs false
attribute [local go_sem ↓] Go.wp_at_zero Go.wp_at_succ
theorem dig_at (s : H8) (k : Nat) (hk : k < 32) : rd (digL s.nats) (k : Int) = ((s.nats.getD (k / 4) 0 / 2 ^ (24 - 8 * (k % 4)) % 256 : Nat) : Int) := by
  have hc : k = 0 ∨ k = 1 ∨ k = 2 ∨ k = 3 ∨ k = 4 ∨ k = 5 ∨ k = 6 ∨ k = 7 ∨ k = 8 ∨ k = 9 ∨ k = 10 ∨ k = 11 ∨ k = 12 ∨ k = 13 ∨ k = 14 ∨ k = 15 ∨ k = 16 ∨ k = 17 ∨ k = 18 ∨ k = 19 ∨ k = 20 ∨ k = 21 ∨ k = 22 ∨ k = 23 ∨ k = 24 ∨ k = 25 ∨ k = 26 ∨ k = 27 ∨ k = 28 ∨ k = 29 ∨ k = 30 ∨ k = 31 := by omega
  rcases hc with rfl | rfl | rfl | rfl | rfl | rfl | rfl | rfl | rfl | rfl | rfl | rfl | rfl | rfl | rfl | rfl | rfl | rfl | rfl | rfl | rfl | rfl | rfl | rfl | rfl | rfl | rfl | rfl | rfl | rfl | rfl | rfl <;> rfl
attribute [local go_sem] opVal opUpon
set_option maxHeartbeats 8000000 in
set_option maxRecDepth 100000 in
theorem ShaChain_at (W : World) (A : Option Addr) (c : Nat) (l : List Int) (hr : Kd.C (Kd.int .u8) W A l.length l) (hc : l.length ≤ c) (hb : ∀ x ∈ l, 0 ≤ x ∧ x ≤ 255) (hl : l.length ≤ 140737488351232) (hG : RootsIn W) :
    Calls Tryd.prog 6 #[.slice A l.length c] W fun e w' => e = .returned (.bool true) ∧ Below W.heap.size W w' := by
  have kn := fun (X : World) (hX : Below W.heap.size W X) => wicketmanlaw02_known.calls true X rfl (hG.below rfl hX)
  have KN := Aside0.mk kn
  have HR := Aside0.mk hr
  have HG := Aside0.mk hG
  by_cases h300 : 300 < l.length
  · have h3 : (300 : Int) < (l.length : Int) := by omega
    clear kn hr hb hG hc
    go_enter Tryd.func6, Tryd.ntmps6
    go_wp2_with (go_at_call 21; ((with_reducible refine (KN.out _ (Below.refl _ _)).mono ?_); rintro e w1 ⟨rfl, hb1⟩); have HB1 := Aside0.mk hb1; clear hb1)
    go_ret
    exact ⟨rfl, HB1.out⟩
  have h3 : ¬ (300 : Int) < (l.length : Int) := by omega
  have hpad := fun (X : World) => sha_Pad.calls 9 (l.length : Int) (padL l.length) X (pad_some l.length (by omega))
  have hpl := padL_len l.length
  have hpl2 : (padL l.length).length ≤ 72 := by omega
  have hsum := fun (X : World) (hX : Below W.heap.size W (X.alloc (.cells #[.slice A l.length c] 22))) => sum1 X A l.length c l (Kd.C_below hr hX) hc (by omega) hb (hG.below rfl hX)
  have HSUM := Aside0.mk hsum
  have HPAD := Aside0.mk hpad
  have HPL := Aside0.mk hpl
  have HALL := Aside0.mk hb
  clear kn hr hb hG hpad hpl hsum h300
  go_enter Tryd.func6, Tryd.ntmps6
  go_wp2_with (at_builtin; refine Kd.R_append_rows (Kd.int .u8) (w0 := W) W.heap.size rfl (.tmp 13) (.tmp 14) 22 5 (.int .u8 0) 1 rfl Tryd.underlying22 info5b rfl (by decide) (by omega) (.slice none 0 0) [] l _ _ _ (fun _ => True) (fun _ => False) rfl rfl (Kd.R_nil _ _ _ _ _) HR.out (fun _ _ h => h) (fun _ h => h.elim) (fun _ _ => trivial) (Below.refl _ _) (Nat.le_refl _) (by simp; omega) ?_)
  intro v1 w1 hR1 hb1 _ _
  obtain ⟨A1, c1, rfl⟩ := Kd.R_slice hR1
  have HR1 := Aside0.mk hR1
  have HB1 := Aside0.mk hb1
  clear hR1 hb1
  go_wp2_with (go_at_call 24; ((with_reducible refine (HPAD.out _).mono ?_)))
  rintro e w2 ⟨v2, rfl, hR2, hb2⟩
  obtain ⟨A2, c2, rfl, hl2, hC2⟩ := Kd.R_reads hR2
  have HB2 := Aside0.mk (below_step HB1.out hb2)
  have HR12 := Aside0.mk (Kd.R_below HR1.out hb2)
  have HC2 := Aside0.mk hC2
  clear hR2 hb2 hC2 hl2 HR1 HB1
  go_wp2_with (at_builtin; refine Kd.R_append_rows (Kd.int .u8) (w0 := W) W.heap.size rfl (.tmp 20) (.tmp 21) 22 5 (.int .u8 0) 1 rfl Tryd.underlying22 info5b rfl (by decide) (by omega) (.slice A1 l.length c1) l (padL l.length) _ _ _ (fun _ => True) (fun _ => False) rfl rfl HR12.out HC2.out (fun _ _ h => h) (fun _ h => h.elim) (fun _ _ => trivial) HB2.out HB2.out.size (by omega) ?_)
  intro v3 w3 hR3 hb3 _ _
  obtain ⟨ys, hys⟩ : ∃ ys, ys = l ++ padL l.length := ⟨_, rfl⟩
  have hyl : ys.length = 64 * blocks l.length := by rw [hys, List.length_append, HPL.out]; exact blocks_eq _
  have hyb : ∀ x ∈ ys, 0 ≤ x ∧ x ≤ 255 := by
    intro x hx
    rw [hys] at hx
    rcases List.mem_append.1 hx with h | h
    · exact HALL.out x h
    · exact padL_bytes _ x h
  have hyl2 : ys.length ≤ 1000072 := by rw [hys, List.length_append]; omega
  rw [← hys] at hR3
  have hsha : shaL l = digL (runB ivH ys (blocks l.length)).nats := by rw [hys]; rfl
  obtain ⟨m, hm⟩ : ∃ m, m = blocks l.length := ⟨_, rfl⟩
  rw [← hm] at hyl hsha
  obtain ⟨A3, c3, rfl, hl3, hC3⟩ := Kd.R_reads hR3
  rw [hyl] at hl3 hC3 ⊢
  rw [hyl] at hyl2
  have HC3 := Aside0.mk hC3
  have HCL := Aside0.mk hl3
  have HB3 := Aside0.mk hb3
  have HYL := Aside0.mk hyl
  have HYB := Aside0.mk hyb
  have HSHA := Aside0.mk hsha
  clear hR3 hb3 HR12 HB2 HC2 hys hyl hyb hsha hm HPL HALL hl3 hC3
  go_wp2
  go_loopw [6] (fun v6 wr => ∃ i : Nat, i ≤ m ∧ v6 = .int .i64 ((64 * i : Nat) : Int) ∧ Aside0 (wr.heap[w3.heap.size]? = some (.cells (runB ivH ys i).vals.toArray 25 (0, 0)) ∧ Below w3.heap.size w3 wr)) (fun v6 _ => ys.length - (intOf v6).toNat)
  case atStart => exact ⟨0, Nat.zero_le _, rfl, ⟨heap_alloc_new w3 _, (Below.refl _ w3).alloc (Nat.le_refl _) _⟩⟩
  case round =>
    obtain ⟨i, him, rfl, ⟨⟨hh, hbw⟩⟩⟩ := hrel
    by_cases hlt : i < m
    · have hC := Kd.C_below HC3.out hbw
      obtain ⟨ad, rfl, -⟩ := Kd.at_int hC 0 (by omega) (by have := HYL.out; omega)
      have hx := C_sub (l := ys) (by have := HYL.out; rw [← this] at hC; exact hC) (64 * i) 64 (by have := HYL.out; omega)
      obtain ⟨x, hxe⟩ : ∃ x, x = (ys.drop (64 * i)).take 64 := ⟨_, rfl⟩
      have hxb : ∀ z ∈ x, 0 ≤ z ∧ z ≤ 255 := by rw [hxe]; exact fun z hz => HYB.out z (List.mem_of_mem_drop (List.mem_of_mem_take hz))
      have hstep : runB ivH ys (i + 1) = blockN (runB ivH ys i) x := by rw [hxe]; unfold runB; rw [chunksL_succ, List.foldl_append]; rfl
      have hok : (runB ivH ys i).ok := foldB_ok ivH_ok _
      rw [← hxe] at hx
      obtain ⟨st, hst⟩ : ∃ st, st = runB ivH ys i := ⟨_, rfl⟩
      rw [← hst] at hh hok hstep
      have hblk := fun (X : World) (hX : Below wr.heap.size wr X) => block_any st hok (some (ad.add (64 * i))) (c3 - 64 * i) x X (Kd.C_below hx hX) (by have := HYL.out; have := HCL.out; omega) hxb (HG.out.below rfl (below_step HB3.out (below_step hbw hX)))
      have HH := Aside0.mk hh
      have HBW := Aside0.mk hbw
      have HSTEP := Aside0.mk hstep
      obtain ⟨sa, sb, sc, sd, se, sf, sg, sh⟩ := st
      obtain ⟨q0, q1, q2, q3, q4, q5, q6, q7⟩ := cell8 hh
      have HBLK := Aside0.mk hblk
      have hci : c3 ≠ 64 * i := by have := HYL.out; have := HCL.out; omega
      have hle : (64 * (i : Int)) + 64 ≤ 64 * (m : Int) := by omega
      have hle2 : (64 * (i : Int)) < 64 * (m : Int) := by omega
      have hcut : ∀ X : World, (Instr.slice 22 (.slice (some ad) (64 * m) c3) (some (.int .i64 (64 * (i : Int)))) (some (.int .i64 (64 * (i : Int) + 64))) none).run Tryd.prog X = .ok (.slice (some (ad.add (64 * i))) 64 (c3 - 64 * i)) X := by
        obtain ⟨i0, hi0, hz0, hz1, hz2⟩ := info_parts info5b
        have h := cut_mid (P := Tryd.prog) 22 5 .i64 .i64 Tryd.underlying22 hi0 1 hz1 (some ad) (64 * m) c3 (64 * (i : Int)) (64 * (i : Int) + 64) (by omega) (by omega) (by omega) HCL.out
        have e1 : (64 * (i : Int)).toNat = 64 * i := by omega
        have e2 : (64 * (i : Int) + 64).toNat = 64 * i + 64 := by omega
        rw [e1, e2, if_neg hci, Option.map_some, Nat.mul_one, show 64 * i + 64 - 64 * i = 64 by omega] at h
        exact h
      have hcl := HCL.out
      have iw1 : IntKind.i64.wrap (64 * (i : Int) + 64) = 64 * (i : Int) + 64 := IntWalk.i64_in _ (by omega)
      have iw2 : (0 : Int) ≤ 64 * (i : Int) + 64 := by omega
      have iw3 : 64 * (i : Int) + 64 ≤ (c3 : Int) := by omega
      have iw4 : (0 : Int) ≤ 64 * (i : Int) := by omega
      have iw5 : max (64 * (i : Int) + 64) 0 = 64 * (i : Int) + 64 := Int.max_eq_left iw2
      have iw6 : (64 * (i : Int)).toNat = 64 * i := by omega
      have iw7 : (64 * (i : Int) + 64).toNat = 64 * i + 64 := by omega
      have iw8 : 64 * (i : Int) ≤ 64 * (i : Int) + 64 := by omega
      clear hx hxe hxb hstep hok hst hblk hh hbw hC hcl
      go_wp2
      obtain ⟨S1, hS1⟩ : ∃ S1, S1 = blockN ⟨sa, sb, sc, sd, se, sf, sg, sh⟩ x := ⟨_, rfl⟩
      have HBLK2 : ∀ X, Below wr.heap.size wr X → Calls Tryd.prog 26 #[.agg #[.int .u32 (sa : Int), .int .u32 (sb : Int), .int .u32 (sc : Int), .int .u32 (sd : Int), .int .u32 (se : Int), .int .u32 (sf : Int), .int .u32 (sg : Int), .int .u32 (sh : Int)], .slice (some (ad.add (64 * i))) 64 (c3 - 64 * i)] X fun e w' => e = .returned (.agg S1.vals.toArray) ∧ Below X.heap.size X w' := by rw [hS1]; exact HBLK.out
      have HBLK := Aside0.mk HBLK2
      have HSTEP := Aside0.mk (show runB ivH ys (i + 1) = S1 by rw [hS1]; exact HSTEP.out)
      clear HBLK2 hS1
      obtain ⟨ta, tb, tc, td, te, tf, tg, th⟩ := S1
      simp only [H8.vals] at HBLK
      go_region_with (go_at_call 26; (refine (HBLK.out _ (Below.refl _ _).drew).mono ?_; rintro e w5 ⟨rfl, hb5⟩); have g5 := (hb5.block _ (Array.getElem?_eq_some_iff.1 HH.out).1).trans HH.out; obtain ⟨p0, p1, p2, p3, p4, p5, p6, p7⟩ := cell8 g5; have f0 := blk_frozen g5 0; have f1 := blk_frozen g5 1; have f2 := blk_frozen g5 2; have f3 := blk_frozen g5 3; have f4 := blk_frozen g5 4; have f5 := blk_frozen g5 5; have f6 := blk_frozen g5 6; have f7 := blk_frozen g5 7; have G5 := Aside0.mk g5; have HB5 := Aside0.mk (below_step HBW.out.drew hb5); clear hb5 g5 HBLK)
      go_wp2
      go_roundw
      case rel =>
        refine ⟨i + 1, by omega, by go_num, ⟨?_, ?_⟩⟩
        · rw [HSTEP.out]
          exact blk_set (blk_set (blk_set (blk_set (blk_set (blk_set (blk_set (blk_set G5.out 0 _) 1 _) 2 _) 3 _) 4 _) 5 _) 6 _) 7 _
        · exact (((((((HB5.out.setCell (Nat.le_refl _) _).setCell (Nat.le_refl _) _).setCell (Nat.le_refl _) _).setCell (Nat.le_refl _) _).setCell (Nat.le_refl _) _).setCell (Nat.le_refl _) _).setCell (Nat.le_refl _) _).setCell (Nat.le_refl _) _
      case measure => have := HYL.out; simp [intOf]; omega
    · obtain rfl : i = m := by omega
      have hok : (runB ivH ys i).ok := foldB_ok ivH_ok _
      have hsh := HSHA.out
      obtain ⟨st, hst⟩ : ∃ st, st = runB ivH ys i := ⟨_, rfl⟩
      rw [← hst] at hh hok hsh
      have HH := Aside0.mk hh
      have HBW := Aside0.mk (below_step HB3.out hbw)
      have HSH := Aside0.mk hsh
      have HOK := Aside0.mk hok
      clear hst hh hbw hok hsh
      go_wp2_with (go_at_call 22; ((with_reducible refine (HSUM.out _ ?hN2).mono ?_)))
      case hN2 => exact HBW.out.alloc HBW.out.size _
      rintro e w6 ⟨v6, rfl, hR6, hb6⟩
      obtain ⟨A6, c6, rfl, hl6, hC6⟩ := Kd.R_reads hR6
      have e32 : (shaL l).length = 32 := shaL_len l
      have hh6 := (hb6.block _ (by simp only [World.size_alloc]; have := (Array.getElem?_eq_some_iff.1 HH.out).1; omega)).trans ((Below.heap_alloc _ _ _ (Array.getElem?_eq_some_iff.1 HH.out).1).trans HH.out)
      rw [e32] at hl6 hC6 ⊢
      rw [HSH.out] at hC6
      obtain ⟨ad6, rfl, -⟩ := Kd.at_int hC6 0 (by decide) (by decide)
      have HC6 := Aside0.mk hC6
      have HH6 := Aside0.mk hh6
      have HB6 := Aside0.mk (below_step (HBW.out.alloc HBW.out.size (.cells #[.slice A l.length c] 22)) hb6)
      clear hR6 hb6 hC6 hh6 hl6 e32
      go_wp2
      go_loopw [8] (fun v8 wr => ∃ k : Nat, k ≤ 32 ∧ v8 = .int .i64 (k : Int) ∧ Aside0 (Below w6.heap.size w6 wr)) (fun v8 _ => 32 - (intOf v8).toNat)
      case atStart => exact ⟨0, Nat.zero_le _, rfl, ⟨Below.refl _ _⟩⟩
      case round =>
        obtain ⟨k, hk, rfl, HBR⟩ := hrel
        by_cases h32 : k < 32
        · obtain ⟨_, ea, hx⟩ := Kd.at_int (Kd.C_below HC6.out HBR.out) (k : Int) (by omega) (by omega)
          cases ea
          rw [Int.toNat_natCast] at hx
          have g6 := (HBR.out.block _ (Array.getElem?_eq_some_iff.1 HH6.out).1).trans HH6.out
          have kk0 : (k : Int) < 32 := by omega
          obtain ⟨q, hq⟩ : ∃ q, q = k / 4 := ⟨_, rfl⟩
          obtain ⟨r, hr⟩ : ∃ r, r = k % 4 := ⟨_, rfl⟩
          have hq8 : q < 8 := by omega
          have hv : rd (digL st.nats) (k : Int) = ((st.nats.getD q 0 / 2 ^ (24 - 8 * r) % 256 : Nat) : Int) := by rw [hq, hr]; exact dig_at st k h32
          have hcell : wr.cell? ⟨w3.heap.size, q, none⟩ = some (.int .u32 ((st.nats.getD q 0 : Nat) : Int)) := by
            rw [blk_cell g6 q]
            have hc : q = 0 ∨ q = 1 ∨ q = 2 ∨ q = 3 ∨ q = 4 ∨ q = 5 ∨ q = 6 ∨ q = 7 := by omega
            rcases hc with rfl | rfl | rfl | rfl | rfl | rfl | rfl | rfl <;> rfl
          rw [hv] at hx
          obtain ⟨n, hn⟩ : ∃ n, n = st.nats.getD q 0 := ⟨_, rfl⟩
          rw [← hn] at hx hcell
          have i1 : Int.tdiv (k : Int) 4 = (q : Int) := by rw [Int.tdiv_eq_ediv_of_nonneg (by omega)]; omega
          have i2 : (k : Int) / 4 = (q : Int) := by omega
          have i3 : Int.tmod (k : Int) 4 = (r : Int) := by rw [Int.tmod_eq_emod_of_nonneg (by omega)]; omega
          have i4 : (k : Int) % 4 = (r : Int) := by omega
          have i5 : (q : Int) < 8 := by omega
          have i6 : (24 - 8 * (r : Int)) = ((24 - 8 * r : Nat) : Int) := by omega
          have i7 : IntKind.i64.wrap (q : Int) = (q : Int) := IntWalk.i64_in _ (by omega)
          have i8 : IntKind.i64.wrap (8 * (r : Int)) = 8 * (r : Int) := IntWalk.i64_in _ (by omega)
          have i9 : IntKind.i64.wrap ((24 - 8 * r : Nat) : Int) = ((24 - 8 * r : Nat) : Int) := IntWalk.i64_in _ (by omega)
          have i10 : IntKind.u64.wrap ((24 - 8 * r : Nat) : Int) = ((24 - 8 * r : Nat) : Int) := wraps_u64 _ (by omega) (by omega)
          have HX := Aside0.mk hx
          have HCELL := Aside0.mk hcell
          clear hv hn hq hr
          go_wp2
          refine wp_region_inv_ex (fun X => Below w6.heap.size w6 X ∧ Below wr.heap.size wr X) (fun X Y => Below X.heap.size X Y) (BOf
            [some (.slice (some ad6) 32 c6), some (.int .i64 (k : Int)), some (.pointer (some (ad6.add k))), some (.int .u8 ((n / 2 ^ (24 - 8 * r) % 256 : Nat) : Int)), some (.int .i64 (k : Int)), some (.int .i64 (q : Int)), some (.pointer (some ⟨w3.heap.size, q, none⟩)), some (.int .u32 (n : Int)),
             some (.int .i64 (k : Int)), some (.int .i64 (r : Int)), some (.int .i64 (8 * (r : Int))), some (.int .i64 ((24 - 8 * r : Nat) : Int)), some (.int .u64 ((24 - 8 * r : Nat) : Int)), some (.int .u32 ((n / 2 ^ (24 - 8 * r) : Nat) : Int)), some (.int .u8 ((n / 2 ^ (24 - 8 * r) % 256 : Nat) : Int)), some (.bool false)] [])
            (by kernel_rfl) (by kernel_rfl) (by kernel_rfl) (fun X => Below.refl _ X) (BOf_below ?hsp) ⟨HBR.out.drew, (Below.refl _ _).drew⟩ ?all
          case hsp => simp
          apply Exists.intro
          refine ⟨?hA, ?steps, ?fin⟩
          case hA =>
            simp only [lay, Act.put, List.setIfInBounds_toArray, List.set_cons_zero, List.set_cons_succ]
            exact rfl
          case fin =>
            intro us X hC hB
            have h15 : us 15 = .bool false := (hB 15 (by decide)).1
            rw [h15]
            go_wp2
            go_roundw
            case rel => exact ⟨k + 1, by omega, by go_num, ⟨hC.1⟩⟩
            case measure => simp [intOf]; omega
          case steps =>
            repeat' (first | exact Steps.nil | refine Steps.cons ?_ ?_)
            all_goals (intro us X F hC hd hF; simp only [Deps, BOf, pureAt, spAt] at hd hF)
            all_goals (try simp only [Nat.reduceAdd, Nat.reduceEqDiff, false_implies, true_implies, and_true, true_and] at hd hF)
            all_goals (have hx := pw_cell_below hC.2 HX.out; have hcell := pw_cell_below hC.2 HCELL.out)
            all_goals go_simp
            all_goals (first | exact hF _ _ hC (Below.refl _ _) rfl)
        · obtain rfl : k = 32 := by omega
          go_wp2_with (go_at_call 21; ((with_reducible refine (KN.out _ (below_step HB6.out HBR.out)).mono ?_); rintro e w7 ⟨rfl, hb7⟩); have HB7 := Aside0.mk (below_step (below_step HB6.out HBR.out) hb7); clear hb7)
          go_ret
          exact ⟨rfl, HB7.out⟩

end Go.Proofs.YtfmdpkilgnccfaaDoor.Pure
