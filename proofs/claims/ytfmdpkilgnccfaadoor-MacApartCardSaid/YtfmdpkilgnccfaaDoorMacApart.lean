/- MacApart: two Makers that are ideal know nothing of one another; a Maker by a key is as another one by it, whatever becomes of the key. -/
import Derived.Test.YtfmdpkilgnccfaaDoorMacI
import Derived.Test.YtfmdpkilgnccfaaDoorWZeros
import Derived.Lib.MinMax
namespace Go.Proofs.YtfmdpkilgnccfaaDoor.Pure
open Go.RowKit Go.Proofs.YtfmdpkilgnccfaaDoorW.PrintWords Go.Proofs.YtfmdpkilgnccfaaDoorW.PrintLast Go.Proofs.YtfmdpkilgnccfaaDoorW.PrintMore Go.Proofs.YtfmdpkilgnccfaaDoor.Pr Go.Proofs.YtfmdpkilgnccfaaDoor.E
set_option linter.unusedVariables false
set_option linter.unusedSimpArgs false
attribute [local go_sem] opVal opUpon
structure ApartInv (w2 w5 : World) (ROW : Option Nat) (n : Nat) (B : Option Addr) (d : Nat) (l : List Int) (wr : World) : Prop where
  len : l.length = n
  bytes : ∀ x ∈ l, 0 ≤ x ∧ x ≤ 255
  row : Kd.R (Kd.int .u8) 5 wr w2.heap.size (fun _ => True) (.slice B n d) l
  grown : w5.grownBy wr ROW
theorem R_okay {e : TypeId} {w : World} {base : Nat} {v : Value} {l : List Int} (h : Kd.R (Kd.int .u8) e w base (fun _ => True) v l) : Kd.R (Kd.int .u8) e w base (fun k => base ≤ k ∧ k < w.heap.size) v l :=
  Kd.R_mono (Kd.R_bound h) (fun k hk => ⟨hk.2.1, hk.2.2.1⟩)
set_option maxHeartbeats 8000000 in
set_option maxRecDepth 100000 in
theorem MacApart_at (W : World) (A0 : Option Addr) (c0 : Nat) (l0 : List Int) (hr0 : Kd.C (Kd.int .u8) W A0 l0.length l0) (hc0 : l0.length ≤ c0) (hb0 : ∀ x ∈ l0, 0 ≤ x ∧ x ≤ 255) (hl0 : l0.length ≤ 140737488351232) (A1 : Option Addr) (c1 : Nat) (l1 : List Int) (hr1 : Kd.C (Kd.int .u8) W A1 l1.length l1) (hc1 : l1.length ≤ c1) (hb1 : ∀ x ∈ l1, 0 ≤ x ∧ x ≤ 255) (hl1 : l1.length ≤ 140737488351232) (hG : RootsIn W) :
    Calls Tryd.prog 15 #[.slice A0 l0.length c0, .slice A1 l1.length c1] W fun e w' => e = .returned (.bool true) ∧ Below W.heap.size W w' := by
  have n0q := hl0
  have KN := Aside0.mk (fun (X : World) (hX : Below W.heap.size W X) => known3 X (hG.below rfl hX))
  have out : (100 < l0.length ∨ 100 < l1.length) → Calls Tryd.prog 15 #[.slice A0 l0.length c0, .slice A1 l1.length c1] W fun e w' => e = .returned (.bool true) ∧ Below W.heap.size W w' := by
    intro hor
    clear hr0 hr1 hb0 hb1 hG
    rcases hor with ho | ho
    · have g1 : (100 : Int) < (l0.length : Int) := by omega
      have g2 : decide ((100 : Int) < (l0.length : Int)) = true := decide_eq_true g1
      go_enter Tryd.func15, Tryd.ntmps15
      go_wp2_with (go_at_call 29; ((with_reducible refine (KN.out _ (Below.refl _ _)).mono ?_); rintro e w1 ⟨rfl, hb1⟩); have HB1 := Aside0.mk hb1; clear hb1)
      go_ret
      exact ⟨rfl, HB1.out⟩
    · have g3 : (100 : Int) < (l1.length : Int) := by omega
      have g4 : decide ((100 : Int) < (l1.length : Int)) = true := decide_eq_true g3
      by_cases g : 100 < l0.length
      · have g1 : (100 : Int) < (l0.length : Int) := by omega
        have g2 : decide ((100 : Int) < (l0.length : Int)) = true := decide_eq_true g1
        go_enter Tryd.func15, Tryd.ntmps15
        go_wp2_with (go_at_call 29; ((with_reducible refine (KN.out _ (Below.refl _ _)).mono ?_); rintro e w1 ⟨rfl, hb1⟩); have HB1 := Aside0.mk hb1; clear hb1)
        go_ret
        exact ⟨rfl, HB1.out⟩
      · have g1 : ¬ (100 : Int) < (l0.length : Int) := by omega
        have g2 : decide ((100 : Int) < (l0.length : Int)) = false := decide_eq_false g1
        go_enter Tryd.func15, Tryd.ntmps15
        go_wp2_with (go_at_call 29; ((with_reducible refine (KN.out _ (Below.refl _ _)).mono ?_); rintro e w1 ⟨rfl, hb1⟩); have HB1 := Aside0.mk hb1; clear hb1)
        go_ret
        exact ⟨rfl, HB1.out⟩
  by_cases hor : 100 < l0.length ∨ 100 < l1.length
  · exact out hor
  clear out
  have g1 : ¬ (100 : Int) < (l0.length : Int) := by omega
  have g2 : decide ((100 : Int) < (l0.length : Int)) = false := decide_eq_false g1
  have g3 : ¬ (100 : Int) < (l1.length : Int) := by omega
  have g4 : decide ((100 : Int) < (l1.length : Int)) = false := decide_eq_false g3
  have n0 : l0.length ≤ 100 := by omega
  have n1 : l1.length ≤ 100 := by omega
  clear hor
  have HR0 := Aside0.mk hr0
  have HR1 := Aside0.mk hr1
  have HB0 := Aside0.mk hb0
  have HB1 := Aside0.mk hb1
  have HG := Aside0.mk hG
  have q1 := iNilM
  have q2 := iNilP
  have q3 := iMetM
  have q4 := iMetP
  have r1 := rNilM
  have r2 := rNilP
  have r3 := rMetM
  have r4 := rMetP
  clear hr0 hr1 hb0 hb1 hG
  go_enter Tryd.func15, Tryd.ntmps15
  go_wp2_with (go_at_call 30; ((with_reducible refine (ideal_any _).mono ?_)))
  rintro e w1 ⟨p, b, rfl, hpb, hp, hbb, hI, hb1⟩
  have HI1 := Aside0.mk hI
  have HPB := Aside0.mk hpb
  have HW1 := Aside0.mk hb1
  have HLO := Aside0.mk (show W.heap.size ≤ p ∧ W.heap.size ≤ b ∧ p < w1.heap.size ∧ b < w1.heap.size from ⟨hp, hbb, hI.lt.1, hI.lt.2⟩)
  clear hI hpb hb1 hp hbb
  go_wp2_with (go_at_call 30; ((with_reducible refine (ideal_any _).mono ?_)))
  rintro e w2 ⟨p2, b2, rfl, hpb2, hp2, hbb2, hI2, hb2⟩
  have HI2 := Aside0.mk hI2
  have HPB2 := Aside0.mk hpb2
  have HI12 := Aside0.mk (HI1.out.below hb2)
  have HW2 := Aside0.mk (below_step HW1.out hb2)
  have HLO2 := Aside0.mk (show w1.heap.size ≤ p2 ∧ w1.heap.size ≤ b2 ∧ p2 < w2.heap.size ∧ b2 < w2.heap.size from ⟨hp2, hbb2, hI2.lt.1, hI2.lt.2⟩)
  have HS12 := Aside0.mk hb2.size
  clear hI2 hpb2 hb2 hp2 hbb2
  go_wp2_with (at_builtin; refine Kd.R_append_rows (Kd.int .u8) (w0 := w2) w2.heap.size rfl (.tmp 23) (.tmp 24) 22 5 (.int .u8 0) 1 rfl Tryd.underlying22 info5b rfl (by decide) (by omega) (.slice none 0 0) [] l0 _ _ _ (fun _ => True) (fun _ => False) rfl rfl (Kd.R_nil _ _ _ _ _) (Kd.C_below HR0.out HW2.out) (fun _ _ h => h) (fun _ h => h.elim) (fun _ _ => trivial) (Below.refl w2.heap.size w2) (Below.refl w2.heap.size w2).size (by simp; omega) ?_)
  intro v3 w3 hR3 hb3 _ _
  have hR3 : Kd.R (Kd.int .u8) 5 w3 w2.heap.size (fun _ => True) v3 l0 := hR3
  obtain ⟨B3, d3, rfl⟩ := Kd.R_slice hR3
  have h3 := Kd.R_reads' hR3
  have hre := real_any B3 d3 l0 w3 h3.2.2 h3.2.1 (by omega)
  have HRE := Aside0.mk hre
  have HR3 := Aside0.mk hR3
  have HB3 := Aside0.mk hb3
  have HW3 := Aside0.mk (below_step HW2.out hb3)
  clear hR3 hb3 h3 hre
  go_wp2_with (go_at_call 40; ((with_reducible refine (HRE.out).mono ?_)))
  rintro e w4 ⟨v4, rfl, hV4, hb4⟩
  obtain ⟨B4, d4, rfl⟩ := Kd.R_slice hV4
  have hW4 := below_step HW3.out hb4
  have hre := real_any A0 c0 l0 w4 (Kd.C_below HR0.out hW4) hc0 (by omega)
  have HV4 := Aside0.mk (R_okay hV4)
  have HRE2 := Aside0.mk hre
  have HB4 := Aside0.mk hb4
  have HW4 := Aside0.mk hW4
  clear hV4 hb4 hW4 hre
  go_wp2_with (go_at_call 40; ((with_reducible refine (HRE2.out).mono ?_)))
  rintro e w5 ⟨v5, rfl, hV5, hb5⟩
  obtain ⟨B5, d5, rfl⟩ := Kd.R_slice hV5
  have hV45 := Kd.R_below HV4.out hb5
  have HV45 := Aside0.mk hV45
  have HV5 := Aside0.mk (R_okay hV5)
  have HB5 := Aside0.mk hb5
  have HW5 := Aside0.mk (below_step HW4.out hb5)
  have hR35 : Kd.R (Kd.int .u8) 5 w5 w2.heap.size (fun _ => True) (.slice B3 l0.length d3) l0 := Kd.R_below (Kd.R_below HR3.out HB4.out) hb5
  have hrow : ∃ ROW : Option Nat, (∀ k, ROW = some k → w2.heap.size ≤ k ∧ k < w3.heap.size) ∧ (0 < l0.length → ∃ g, ROW = some g ∧ B3 = some ⟨g, 0, none⟩) := by
    by_cases h0 : 0 < l0.length
    · obtain ⟨g, cap, e, h1, h2, -⟩ := Kd.R_form HR3.out h0
      injection e with x1 x2 x3
      exact ⟨some g, (fun k hk => by cases hk; exact ⟨h1, h2⟩), fun _ => ⟨g, rfl, x1⟩⟩
    · exact ⟨none, (fun k hk => by cases hk), fun h => absurd h h0⟩
  obtain ⟨ROW, hrow1, hrow2⟩ := hrow
  have hinv : ApartInv w2 w5 ROW l0.length B3 d3 l0 w5 := ⟨rfl, HB0.out, hR35, ⟨rfl, rfl, rfl, Nat.le_refl _, fun _ _ _ => rfl⟩⟩
  obtain ⟨n, hn⟩ : ∃ n, n = l0.length := ⟨_, rfl⟩
  rw [← hn] at hinv hrow2 n0
  have HINV := Aside0.mk hinv
  have HR1W := Aside0.mk hrow1
  have HR2W := Aside0.mk hrow2
  have HN := Aside0.mk hn
  have HS := Aside0.mk (show w1.heap.size ≤ w2.heap.size ∧ w2.heap.size ≤ w3.heap.size ∧ w3.heap.size ≤ w4.heap.size ∧ w4.heap.size ≤ w5.heap.size ∧ W.heap.size ≤ w2.heap.size from ⟨HS12.out, HB3.out.size, HB4.out.size, hb5.size, HW2.out.size⟩)
  clear hV5 hb5 hV45 hR35 hrow1 hrow2 hinv hc0 hl0 n0q g1 g2
  rw [← hn]
  clear hn
  go_wp2
  go_loopw [10] (fun v10 wr => ∃ (i : Nat) (l : List Int), i ≤ n ∧ v10 = .int .i64 (i : Int) ∧ Aside0 (ApartInv w2 w5 ROW n B3 d3 l wr)) (fun v10 _ => n - (intOf v10).toNat)
  case atStart => exact ⟨0, _, Nat.zero_le _, rfl, HINV⟩
  case round =>
    obtain ⟨i, l, hin, rfl, hH⟩ := hrel
    by_cases hlt : i < n
    · obtain ⟨g, rfl, rfl⟩ := HR2W.out (by omega)
      have hz : (i : Int) < (n : Int) := by omega
      have hll := hH.out.len
      have hRw := hH.out.row
      obtain ⟨hcx, hcf⟩ := Kd.R_celln (0 : Int) hRw (i : Int) (by omega) (by omega)
      rw [Int.toNat_natCast] at hcx hcf
      have hx := hH.out.bytes (rdOf (0 : Int) l (i : Int)) (by
        have h2 : i < l.length := by omega
        simp only [rdOf, Int.toNat_natCast, List.getD_eq_getElem?_getD, List.getElem?_eq_getElem h2, Option.getD_some]
        exact List.getElem_mem _)
      obtain ⟨x, hxe⟩ : ∃ x, x = rdOf (0 : Int) l (i : Int) := ⟨_, rfl⟩
      rw [← hxe] at hcx hx
      obtain ⟨V, hV⟩ : ∃ V, V = (x + 1) % 256 := ⟨_, rfl⟩
      have hV2 : IntKind.u8.wrap (x + 1) = V := by rw [IntKind.wrap_u8, hV]
      have hput := Kd.R_putg hRw (i : Int) V
      rw [Int.toNat_natCast] at hput
      have hnew : ApartInv w2 w5 (some g) n (some ⟨g, 0, none⟩) d3 (l.set i V) (wr.setCell ⟨g, i, none⟩ (.int .u8 V)) := ⟨by rw [List.length_set]; exact hll, by
        intro y hy
        rcases List.mem_or_eq_of_mem_set hy with h | h
        · exact hH.out.bytes y h
        · rw [h, hV]; omega, hput.1, hH.out.grown.trans hput.2⟩
      have HNEW := Aside0.mk hnew
      have hV3 := hV.symm
      clear hll hRw hxe hput hnew hH hV
      go_wp2
      go_roundw
      case rel => exact ⟨i + 1, _, by omega, by go_num, HNEW⟩
      case measure => simp [intOf]; omega
    · have hz : ¬ (i : Int) < (n : Int) := by omega
      have hgr := hH.out.grown
      have hsz := HS.out
      have hlo := HLO.out
      have hlo2 := HLO2.out
      have hb25 : Below w2.heap.size w2 w5 := (HB3.out.trans (HB4.out.mono (by omega))).trans (HB5.out.mono (by omega))
      have hb2r : Below w2.heap.size w2 wr := hb25.grown hgr (by omega) (fun k hk => (HR1W.out k hk).1)
      have hI1 := HI12.out.below hb2r
      have hI2 := HI2.out.below hb2r
      have hWr := below_step HW2.out hb2r
      have h4r := Kd.R_grown HV45.out hgr (fun k hk e => by have := HR1W.out k e.symm; omega)
      have h5r := Kd.R_grown HV5.out hgr (fun k hk e => by have := HR1W.out k e.symm; omega)
      have hmk := imake_any p b [] A1 c1 l1 wr hI1 HPB.out (by intro m hm; cases hm) (Kd.C_below HR1.out hWr) hc1 HB1.out (by omega) List.nodup_nil (by decide) (HG.out.below rfl hWr)
      have HMK := Aside0.mk hmk
      have HI2r := Aside0.mk hI2
      have HWR := Aside0.mk hWr
      have H4R := Aside0.mk h4r
      have H5R := Aside0.mk h5r
      clear hgr hsz hlo hlo2 hb25 hb2r hI1 hI2 hWr h4r h5r hmk hH
      go_wp2_with (go_at_call 85; ((with_reducible refine (HMK.out).mono ?_)))
      rintro e w7 ⟨v7, rfl, hnr7, hI7, hgr7⟩
      obtain ⟨gx, dx, rfl, hgx, hdx, hCx⟩ := NewRow_form hnr7
      have hsz := HS.out
      have hlo := HLO.out
      have hlo2 := HLO2.out
      obtain ⟨E, hE⟩ : ∃ E, E = codeM [] l1 := ⟨_, rfl⟩
      have hEl := codeM_len [] l1
      have hic : icode (addM [] l1) l1 = some E := by rw [hE]; exact icode_add_self [] l1
      rw [← hE] at hEl hCx hdx
      rw [← hE]
      have hW7 : Below W.heap.size W w7 := HWR.out.grown hgr7 HWR.out.size (fun k hk => by cases hk; omega)
      have hI27 : IdealS p2 b2 [] w7 := HI2r.out.kept (hgr7.block p2 HI2r.out.lt.1 (fun e => by injection e with e; omega)) (hgr7.block b2 HI2r.out.lt.2 (fun e => by injection e with e; omega))
      have h4 := Kd.R_reads' (Kd.R_grown H4R.out hgr7 (fun k hk e => by injection e with e; omega))
      have h5 := Kd.R_reads' (Kd.R_grown H5R.out hgr7 (fun k hk e => by injection e with e; omega))
      have hbr : ByteRows (addM [] l1) := addM_rows (by intro m hm; cases hm) HB1.out (by omega)
      obtain ⟨K, hK⟩ : ∃ K, K = codeL l0 l1 := ⟨_, rfl⟩
      have HPA : Aside0 (∀ X, Below w7.heap.size w7 X → Calls Tryd.prog 86 #[.pointer (some ⟨p, 0, none⟩), .slice A1 l1.length c1, .slice (some ⟨gx, 0, none⟩) E.length dx] X (BoolPost true X)) := ⟨fun X hX => by
        have := iprove_any p b (addM [] l1) A1 c1 l1 X (hI7.below hX) HPB.out hbr (Kd.C_below HR1.out (below_step hW7 hX)) hc1 HB1.out (by omega) (some ⟨gx, 0, none⟩) dx E (Kd.C_below hCx hX) hdx hEl.2
        rwa [hic, decide_eq_true rfl] at this⟩
      have HPF : Aside0 (∀ X, Below w7.heap.size w7 X → Calls Tryd.prog 86 #[.pointer (some ⟨p2, 0, none⟩), .slice A1 l1.length c1, .slice (some ⟨gx, 0, none⟩) E.length dx] X (BoolPost false X)) := ⟨fun X hX => by
        have := iprove_any p2 b2 [] A1 c1 l1 X (hI27.below hX) HPB2.out (by intro m hm; cases hm) (Kd.C_below HR1.out (below_step hW7 hX)) hc1 HB1.out (by omega) (some ⟨gx, 0, none⟩) dx E (Kd.C_below hCx hX) hdx hEl.2
        rwa [show icode [] l1 = none from rfl, decide_eq_false (by simp)] at this⟩
      have HMC : Aside0 (∀ X, Below w7.heap.size w7 X → Calls Tryd.prog 87 #[.agg #[.slice B4 n d4], .slice A1 l1.length c1] X (RowBPost K X)) := ⟨fun X hX => by
        rw [hK, HN.out]
        exact rowb_of (mmake_any B4 d4 l0 A1 c1 l1 X (Kd.C_below h4.2.2 hX) h4.2.1 HB0.out (by rw [← HN.out]; omega) (Kd.C_below HR1.out (below_step hW7 hX)) hc1 HB1.out (by omega) (HG.out.below rfl (below_step hW7 hX)))⟩
      have HMD : Aside0 (∀ X, Below w7.heap.size w7 X → Calls Tryd.prog 87 #[.agg #[.slice B5 n d5], .slice A1 l1.length c1] X (RowBPost K X)) := ⟨fun X hX => by
        rw [hK, HN.out]
        exact rowb_of (mmake_any B5 d5 l0 A1 c1 l1 X (Kd.C_below h5.2.2 hX) h5.2.1 HB0.out (by rw [← HN.out]; omega) (Kd.C_below HR1.out (below_step hW7 hX)) hc1 HB1.out (by omega) (HG.out.below rfl (below_step hW7 hX)))⟩
      have HW7 := Aside0.mk hW7
      clear hnr7 hI7 hgr7 hgx hdx hCx hsz hlo hlo2 hE hEl hic hW7 hI27 h4 h5 hbr hK
      obtain ⟨nA, hnA⟩ : ∃ n, n = l1.length := ⟨_, rfl⟩
      obtain ⟨nE, hnE⟩ : ∃ n, n = E.length := ⟨_, rfl⟩
      rw [← hnA, ← hnE] at HPA HPF
      rw [← hnA] at HMC HMD
      rw [← hnA, ← hnE]
      clear hnA hnE
      go_wp2
      refine wp_region_inv_ex (fun X => Below w7.heap.size w7 X) (fun X Y => Below X.heap.size X Y) (BOf
          [some (.bool true), some (.bool true), some (.iface 74 (.pointer (some ⟨p, 0, none⟩))), some (.slice A1 nA c1), some (.slice (some ⟨gx, 0, none⟩) nE dx), some (.bool true), some (.bool true), some (.bool true), some (.iface 74 (.pointer (some ⟨p2, 0, none⟩))), some (.slice A1 nA c1), some (.slice (some ⟨gx, 0, none⟩) nE dx), some (.bool false), some (.bool true), some (.bool true), some (.bool true), some (.iface 82 (.agg #[.slice B4 n d4])), some (.slice A1 nA c1), none, some (.string (strOfNums K)), some (.iface 82 (.agg #[.slice B5 n d5])), some (.slice A1 nA c1), none, some (.string (strOfNums K)), some (.bool true), some (.bool true), some (.bool true)]
          [(17, RowB K), (21, RowB K)])
        (by kernel_rfl) (by kernel_rfl) (by kernel_rfl) (fun X => Below.refl _ X) (BOf_below ?hspS) (Below.refl _ _).drew ?allS
      case hspS => simp [RowB.sp]
      apply Exists.intro
      refine ⟨?hAS, ?stepsS, ?finS⟩
      case hAS =>
        simp only [lay, Act.put, List.setIfInBounds_toArray, List.set_cons_zero, List.set_cons_succ, Nat.zero_add, Nat.reduceAdd]
        exact rfl
      case stepsS =>
        repeat' (first | exact Steps.nil | refine Steps.cons ?_ ?_)
        all_goals (intro us X F hC hd hF; simp only [Deps, BOf, pureAt, spAt] at hd hF)
        all_goals (try simp only [Nat.reduceAdd, Nat.reduceEqDiff, false_implies, true_implies, and_true, true_and] at hd hF)
        all_goals ((try (first | (refine Exists.elim (show RowB K _ _ from hd) ?_; rintro B ⟨dd, e, hCg, hdg⟩; have hsB := Kd.C_string (P := Tryd.prog) (c := dd) Tryd.underlying22 Tryd.underlying5 Tryd.underlying9 hCg) | (refine Exists.elim (show RowB K _ _ from hd.1) ?_; rintro B ⟨dd, e, hCg, hdg⟩; have hsB := Kd.C_string (P := Tryd.prog) (c := dd) Tryd.underlying22 Tryd.underlying5 Tryd.underlying9 hCg) | (refine Exists.elim (show RowB K _ _ from hd.2) ?_; rintro B ⟨dd, e, hCg, hdg⟩; have hsB := Kd.C_string (P := Tryd.prog) (c := dd) Tryd.underlying22 Tryd.underlying5 Tryd.underlying9 hCg) | (refine Exists.elim (show RowB K _ _ from hd.2.1) ?_; rintro B ⟨dd, e, hCg, hdg⟩; have hsB := Kd.C_string (P := Tryd.prog) (c := dd) Tryd.underlying22 Tryd.underlying5 Tryd.underlying9 hCg) | (refine Exists.elim (show RowB K _ _ from hd.2.2) ?_; rintro B ⟨dd, e, hCg, hdg⟩; have hsB := Kd.C_string (P := Tryd.prog) (c := dd) Tryd.underlying22 Tryd.underlying5 Tryd.underlying9 hCg) | (refine Exists.elim (show RowB K _ _ from hd.2.2.1) ?_; rintro B ⟨dd, e, hCg, hdg⟩; have hsB := Kd.C_string (P := Tryd.prog) (c := dd) Tryd.underlying22 Tryd.underlying5 Tryd.underlying9 hCg))))
        all_goals go_simp
        all_goals (first
          | exact hF _ _ hC (Below.refl _ _) rfl
          | ((with_reducible refine (KN.out _ (below_step HW7.out hC)).mono ?_); rintro e w' ⟨rfl, hb⟩; exact ⟨_, rfl, hF _ _ (below_step hC hb) hb rfl⟩)
          | ((with_reducible refine (HPA.out _ hC).mono ?_); rintro e w' ⟨rfl, hb⟩; exact ⟨_, rfl, hF _ _ (below_step hC hb) hb rfl⟩)
          | ((with_reducible refine (HPF.out _ hC).mono ?_); rintro e w' ⟨rfl, hb⟩; exact ⟨_, rfl, hF _ _ (below_step hC hb) hb rfl⟩)
          | ((with_reducible refine (HMC.out _ hC).mono ?_); rintro e w' ⟨v, rfl, hv, hb⟩; exact ⟨_, rfl, hF _ _ (below_step hC hb) hb hv⟩)
          | ((with_reducible refine (HMD.out _ hC).mono ?_); rintro e w' ⟨v, rfl, hv, hb⟩; exact ⟨_, rfl, hF _ _ (below_step hC hb) hb hv⟩))
      case finS =>
        intro us X hC hB
        have hL : us 25 = .bool true := (hB 25 (by decide)).1
        rw [hL]
        go_wp2
        go_ret
        exact ⟨rfl, below_step HW7.out hC⟩
end Go.Proofs.YtfmdpkilgnccfaaDoor.Pure
