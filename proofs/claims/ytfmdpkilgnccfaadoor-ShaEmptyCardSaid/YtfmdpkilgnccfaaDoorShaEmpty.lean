/- ShaEmpty by hand: the sum of nothing is that of its pad alone; what comes out, spoilt, changes nothing. -/
import Derived.Test.YtfmdpkilgnccfaaDoorSha8
import Derived.Deep.RegionWith
namespace Go.Proofs.YtfmdpkilgnccfaaDoor.Pure
open Go.RowKit Go.Proofs.YtfmdpkilgnccfaaDoorW.PrintWords Go.Proofs.YtfmdpkilgnccfaaDoorW.PrintLast Go.Proofs.YtfmdpkilgnccfaaDoorW.PrintMore Go.Proofs.YtfmdpkilgnccfaaDoor.Pr Go.Proofs.YtfmdpkilgnccfaaDoor.E
set_option linter.unusedVariables false
set_option linter.unusedSimpArgs false
set_option maxRecDepth 100000 in
theorem sha_none : shaL [] = [227, 176, 196, 66, 152, 252, 28, 20, 154, 251, 244, 200, 153, 111, 185, 36, 39, 174, 65, 228, 100, 155, 147, 76, 164, 149, 153, 27, 120, 82, 184, 85] := by decide +kernel
set_option maxRecDepth 100000 in
theorem block_none : (blockN ivH (padL 0)).a = 3820012610 ∧ (blockN ivH (padL 0)).h = 2018687061 := by decide +kernel
theorem one_row {W : World} {A : Option Addr} {c : Nat} {l : List Int} (hr : Kd.C (Kd.int .u8) (W.alloc (.cells #[.slice A l.length c] 22)) A l.length l) (hc : l.length ≤ c) : Kd.C (Kd.slice 5 (Kd.int .u8)) (W.alloc (.cells #[.slice A l.length c] 22)) (some ⟨W.heap.size, 0, none⟩) 1 [l] := by
  refine ⟨rfl, by decide, fun _ => ⟨_, rfl, fun j p hj => ?_⟩⟩
  have hj0 : j = 0 := by have := (List.getElem?_eq_some_iff.1 hj).1; simpa using this
  subst hj0
  obtain rfl : l = p := by simpa using hj
  refine ⟨[.slice A l.length c], rfl, ⟨A, c, rfl, hc, hr⟩, fun i u hu => ?_⟩
  have hi0 : i = 0 := by have := (List.getElem?_eq_some_iff.1 hu).1; simpa using this
  subst hi0
  obtain rfl : Value.slice A l.length c = u := by simpa using hu
  have e : (⟨W.heap.size, 0, none⟩ : Addr).add (0 * (Kd.slice 5 (Kd.int IntKind.u8)).sz + 0) = ⟨W.heap.size, 0, none⟩ := by rw [Nat.zero_mul, Nat.add_zero]; exact Addr.add_zero' _
  rw [e, cell_of_row _ _ 0 _ _ _ (heap_alloc_new W _)]
  rfl
set_option maxHeartbeats 8000000 in
set_option maxRecDepth 100000 in
theorem ShaEmpty_at (W : World) (A : Option Addr) (c : Nat) (l : List Int) (hr : Kd.C (Kd.int .u8) W A l.length l) (hc : l.length ≤ c) (hb : ∀ x ∈ l, 0 ≤ x ∧ x ≤ 255) (hl : l.length ≤ 140737488351232) (hG : RootsIn W) :
    Calls Tryd.prog 8 #[.slice A l.length c] W fun e w' => e = .returned (.bool true) ∧ Below W.heap.size W w' := by
  have kn := fun (X : World) (hX : Below W.heap.size W X) => wicketmanlaw02_known.calls true X rfl (hG.below rfl hX)
  have KN := Aside0.mk kn
  have HR := Aside0.mk hr
  by_cases h200 : 200 < l.length
  · have h2 : (200 : Int) < (l.length : Int) := by omega
    clear kn hr hb hG hc
    go_enter Tryd.func8, Tryd.ntmps8
    go_wp2_with (go_at_call 21; ((with_reducible refine (KN.out _ (Below.refl _ _)).mono ?_); rintro e w1 ⟨rfl, hb1⟩); have HB1 := Aside0.mk hb1; clear hb1)
    go_ret
    exact ⟨rfl, HB1.out⟩
  · have h2 : ¬ (200 : Int) < (l.length : Int) := by omega
    have hpad := fun (X : World) => sha_Pad.calls 9 0 (padL 0) X (pad_some 0 (by decide))
    have hpl := padL_len 0
    have hpb := padL_bytes 0
    have hblk := fun (X : World) (hX : Below W.heap.size W X) (A1 : Option Addr) (c1 : Nat) (h : Kd.C (Kd.int .u8) X A1 64 (padL 0)) (h2 : 64 ≤ c1) => block_any ivH ivH_ok A1 c1 (padL 0) X h h2 hpb (hG.below rfl hX)
    have hnone : ∀ (X : World) (hX : Below W.heap.size W X), Calls Tryd.prog 22 #[.slice none 0 0] X fun e w' => ∃ v0_ : Value, e = .returned (v0_) ∧ Kd.R (Kd.int .u8) 5 w' X.heap.size (fun _ => True) v0_ (shaL []) ∧ Below X.heap.size X w' := fun (X : World) (hX : Below W.heap.size W X) => sha_Sum.calls none 0 [] (shaL []) X (by exact ⟨rfl, by decide, fun h => absurd h (by decide)⟩) (Nat.le_refl _) (sha_Sum_some (l := []) (by decide) (by intro x hx; cases hx)) (hG.below rfl hX)
    have hsum : ∀ (X : World) (hX : Below W.heap.size W (X.alloc (.cells #[.slice A l.length c] 22))), Calls Tryd.prog 22 #[.slice (some ⟨X.heap.size, 0, none⟩) 1 1] (X.alloc (.cells #[.slice A l.length c] 22)) fun e w' => ∃ v0_ : Value, e = .returned (v0_) ∧ Kd.R (Kd.int .u8) 5 w' (X.alloc (.cells #[.slice A l.length c] 22)).heap.size (fun _ => True) v0_ (shaL l) ∧ Below (X.alloc (.cells #[.slice A l.length c] 22)).heap.size (X.alloc (.cells #[.slice A l.length c] 22)) w' := fun X hX => sha_Sum.calls (some ⟨X.heap.size, 0, none⟩) 1 [l] (shaL l) (X.alloc (.cells #[.slice A l.length c] 22)) (one_row (Kd.C_below HR.out hX) hc) (Nat.le_refl _) (by have := sha_Sum_some (l := [l]) (by simp; omega) (by simpa using hb); simpa using this) (hG.below rfl hX)
    have hpl64 : (padL 0).length = 64 := by rw [hpl]
    have hP := Aside0.mk hpad
    have HBLK := Aside0.mk hblk
    have HNONE := Aside0.mk hnone
    have HSUM := Aside0.mk hsum
    have HPL := Aside0.mk hpl64
    clear kn hr hb hG hpad hpl hpb hblk hnone hsum hpl64
    go_enter Tryd.func8, Tryd.ntmps8
    go_wp2_with (first
      | (go_at_call 24; ((with_reducible refine (hP.out _).mono ?_); rintro e w1 ⟨v1, rfl, hR1, hb1⟩); obtain ⟨A1, c1, rfl, hl1, hC1⟩ := Kd.R_reads hR1; rw [HPL.out] at hl1 hC1 ⊢; have HB1 := Aside0.mk hb1; have BK := Aside0.mk (HBLK.out w1 hb1 A1 c1 hC1 hl1); clear hR1 hb1 hC1 hl1)
      | (go_at_call 26; (refine (BK.out).mono ?_; rintro e w2 ⟨rfl, hb2⟩); obtain ⟨S0, hS0⟩ : ∃ S0, S0 = blockN ivH (padL 0) := ⟨_, rfl⟩; rw [← hS0]; have HS0 := Aside0.mk hS0; have HB2 := Aside0.mk (below_step HB1.out hb2); obtain ⟨xa, xb, xc, xd, xe, xf, xg, xh⟩ := S0; simp only [H8.vals]; clear hb2 hS0 BK)
      | (go_at_call 22; ((with_reducible refine (HNONE.out _ ?hN).mono ?_))))
    case hN => exact HB2.out.alloc HB2.out.size _
    rintro e w3 ⟨v3, rfl, hR3, hb3⟩
    obtain ⟨A3, c3, rfl, hl3, hC3⟩ := Kd.R_reads hR3
    have e32 : (shaL []).length = 32 := shaL_len []
    obtain ⟨ad, rfl, h0⟩ := Kd.at_int hC3 0 (by decide) (by rw [e32]; decide)
    obtain ⟨_, e1, h31⟩ := Kd.at_int hC3 31 (by decide) (by rw [e32]; decide)
    cases e1
    rw [sha_none] at h0 h31
    have g0 : w3.cell? ad = some (.int .u8 227) := by have := h0; rwa [show (0 : Int).toNat = 0 from rfl, Addr.add_zero'] at this
    have g31 : w3.cell? ⟨ad.block, ad.off + 31, none⟩ = some (.int .u8 85) := by have := h31; rwa [show (31 : Int).toNat = 30 + 1 from rfl, Addr.add_succ'] at this
    have hh : w3.heap[w2.heap.size]? = some (.cells (H8.mk xa xb xc xd xe xf xg xh).vals.toArray 25 (0, 0)) := (hb3.block _ (by simp)).trans (heap_alloc_new w2 _)
    have q0 : w3.cell? ⟨w2.heap.size, 0, none⟩ = some (.int .u32 3820012610) := by
      have hx : xa = 3820012610 := by have := block_none.1; rw [← HS0.out] at this; exact this
      have := (cell8 hh).1
      rw [hx] at this
      exact this
    have q7 : w3.cell? ⟨w2.heap.size, 7, none⟩ = some (.int .u32 2018687061) := by
      have hx : xh = 2018687061 := by have := block_none.2; rw [← HS0.out] at this; exact this
      have := (cell8 hh).2.2.2.2.2.2.2
      rw [hx] at this
      exact this
    have HB3 := Aside0.mk (below_step (HB2.out.alloc HB2.out.size (.cells #[.int .u32 (xa : Int), .int .u32 (xb : Int), .int .u32 (xc : Int), .int .u32 (xd : Int), .int .u32 (xe : Int), .int .u32 (xf : Int), .int .u32 (xg : Int), .int .u32 (xh : Int)] 25)) hb3)
    rw [e32] at hl3 ⊢
    have G0 := Aside0.mk g0
    have G31 := Aside0.mk g31
    have Q0 := Aside0.mk q0
    have Q7 := Aside0.mk q7
    clear hR3 hb3 hC3 h0 h31 g0 g31 hh q0 q7 e32
    go_wp2_with (go_at_call 22; ((with_reducible refine (HSUM.out _ ?hN2).mono ?_)))
    case hN2 => exact HB3.out.alloc HB3.out.size _
    rintro e w4 ⟨v4, rfl, hR4, hb4⟩
    have e32 : (shaL l).length = 32 := shaL_len l
    obtain ⟨A4, c4, rfl, hl4, hC4⟩ := Kd.R_reads hR4
    rw [e32] at hl4 hC4 hR4 ⊢
    obtain ⟨ad4, rfl, -⟩ := Kd.at_int hC4 0 (by decide) (by decide)
    obtain ⟨g, rfl⟩ := Kd.R_head hR4
    have hg3 : w3.heap.size < g := by
      have := (Kd.R_bound hR4).1 g rfl
      have := this.2.1
      simp only [World.size_alloc] at this
      omega
    have hst := Kd.C_string (P := Tryd.prog) (c := c4) Tryd.underlying22 Tryd.underlying5 Tryd.underlying9 hC4
    have hb34 : Below w3.heap.size w3 w4 := below_step ((Below.refl _ w3).alloc (Nat.le_refl _) _) hb4
    have hR4' : ∃ ys : List Int, ys.length = 32 ∧ Kd.R (Kd.int .u8) 5 w4 (w3.heap.size + 1) (fun _ => True) (.slice (some ⟨g, 0, none⟩) 32 c4) ys := ⟨shaL l, e32, by simpa using hR4⟩
    have HR4 := Aside0.mk hR4'
    have HB34 := Aside0.mk hb34
    have E32 := Aside0.mk e32
    clear hR4 hb4 hC4 hl4 e32 hR4' hb34
    go_wp2
    go_loopw [7] (fun v7 wr => ∃ k : Nat, k ≤ 32 ∧ v7 = .int .i64 (k : Int) ∧ Aside0 ((∃ ys : List Int, ys.length = 32 ∧ Kd.R (Kd.int .u8) 5 wr (w3.heap.size + 1) (fun _ => True) (.slice (some ⟨g, 0, none⟩) 32 c4) ys) ∧ Below w3.heap.size w3 wr)) (fun v7 _ => 32 - (intOf v7).toNat)
    case atStart => exact ⟨0, Nat.zero_le _, rfl, ⟨HR4.out, HB34.out⟩⟩
    case round =>
      obtain ⟨k, hk, rfl, ⟨⟨⟨ys, hys, hR⟩, hbw⟩⟩⟩ := hrel
      by_cases hk32 : k < 32
      · obtain ⟨hx, hf⟩ := Kd.R_celln (0 : Int) hR (k : Int) (by omega) (by omega)
        rw [Int.toNat_natCast] at hx hf
        obtain ⟨x, hxe⟩ : ∃ x, x = rdOf (0 : Int) ys (k : Int) := ⟨_, rfl⟩
        rw [← hxe] at hx
        have hput := Kd.R_putg hR (k : Int) (IntKind.u8.wrap (x + 1))
        rw [Int.toNat_natCast] at hput
        have HPUT := Aside0.mk hput.1
        have HYS := Aside0.mk hys
        have HBW := Aside0.mk hbw
        have kk0 : (k : Int) < 32 := by omega
        clear hxe hput hys hbw hR
        go_wp2
        go_roundw
        case rel =>
          refine ⟨k + 1, by omega, by go_num, ⟨⟨ys.set k (IntKind.u8.wrap (x + 1)), by rw [List.length_set]; exact HYS.out, ?_⟩, ?_⟩⟩
          · first | exact HPUT.out | (have := HPUT.out; simpa [IntKind.wrap] using this)
          · exact HBW.out.setCell (by simp; omega) _
        case measure => simp [intOf]; omega
      · obtain rfl : k = 32 := by omega
        have HBW := Aside0.mk (below_step HB3.out hbw)
        have hw : ∃ y0 y7 : Int, y0 = 3820012610 ∧ y7 = 2018687061 ∧ 0 ≤ y0 ∧ y0 < 4294967296 ∧ 0 ≤ y7 ∧ y7 < 4294967296 ∧ y0 / 16777216 % 256 = 227 ∧ y7 % 256 = 85 := ⟨_, _, rfl, rfl, by decide, by decide, by decide, by decide, by decide, by decide⟩
        obtain ⟨y0, y7, hy0, hy7, ya, yb, yc, yd, ye, yf⟩ := hw
        have Q0 := Aside0.mk (hy0 ▸ Q0.out)
        have Q7 := Aside0.mk (hy7 ▸ Q7.out)
        have yg : IntKind.u8.wrap (y0 / 16777216) = 227 := by rw [IntKind.wrap_u8]; exact ye
        have yh : IntKind.u8.wrap y7 = 85 := by rw [IntKind.wrap_u8]; exact yf
        clear hy0 hy7
        have q0 : wr.cell? ad = some (.int .u8 227) := pw_cell_below hbw G0.out
        have q31 : wr.cell? ⟨ad.block, ad.off + 31, none⟩ = some (.int .u8 85) := pw_cell_below hbw G31.out
        have p0 : wr.cell? ⟨w2.heap.size, 0, none⟩ = some (.int .u32 y0) := pw_cell_below hbw Q0.out
        have p7 : wr.cell? ⟨w2.heap.size, 7, none⟩ = some (.int .u32 y7) := pw_cell_below hbw Q7.out
        clear hys hR hbw hk32
        have hd0 := HBW.out.drew
        have HD0 := Aside0.mk hd0
        clear hd0
        go_wp2
        go_region_with (first
          | (go_at_call 21; (refine (KN.out _ HD0.out).mono ?_; rintro e w5 ⟨rfl, hb5⟩); have HB5 := Aside0.mk (below_step HD0.out hb5); have r0 : w5.cell? ad = some (.int .u8 227) := pw_cell_below hb5 q0; have r31 : w5.cell? ⟨ad.block, ad.off + 31, none⟩ = some (.int .u8 85) := pw_cell_below hb5 q31; have s0 : w5.cell? ⟨w2.heap.size, 0, none⟩ = some (.int .u32 y0) := pw_cell_below hb5 p0; have s7 : w5.cell? ⟨w2.heap.size, 7, none⟩ = some (.int .u32 y7) := pw_cell_below hb5 p7; clear hb5 q0 q31 p0 p7)
          | (go_at_call 22; (refine (HSUM.out _ (HB5.out.alloc HB5.out.size _)).mono ?_; rintro e w6 ⟨v5, rfl, hR5, hb6⟩); obtain ⟨A5, c5, rfl, hl5, hC5⟩ := Kd.R_reads hR5; rw [E32.out] at hC5 ⊢; have hst5 := Kd.C_string (P := Tryd.prog) (c := c5) Tryd.underlying22 Tryd.underlying5 Tryd.underlying9 hC5; have HB6 := Aside0.mk (below_step (HB5.out.alloc HB5.out.size (.cells #[.slice A l.length c] 22)) hb6); clear hR5 hl5 hC5 hb6 r0 r31 s0 s7))
        all_goals go_wp2
        all_goals go_ret
        all_goals exact ⟨rfl, HB6.out⟩
end Go.Proofs.YtfmdpkilgnccfaaDoor.Pure
