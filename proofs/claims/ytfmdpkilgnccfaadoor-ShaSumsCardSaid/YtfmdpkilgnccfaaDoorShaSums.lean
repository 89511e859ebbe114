/- ShaSums by hand: Sum, Pad and Block of any bytes and numbers are what the chapter says. -/
import Derived.Test.YtfmdpkilgnccfaaDoorRowsB
import Derived.Test.YtfmdpkilgnccfaaDoorRefS
import Derived.Test.YtfmdpkilgnccfaaDoorWZeros
namespace Go.Proofs.YtfmdpkilgnccfaaDoor.Pure
open Go.RowKit Go.Proofs.YtfmdpkilgnccfaaDoorW.PrintWords Go.Proofs.YtfmdpkilgnccfaaDoorW.PrintLast Go.Proofs.YtfmdpkilgnccfaaDoorW.PrintMore Go.Proofs.YtfmdpkilgnccfaaDoor.Pr Go.Proofs.YtfmdpkilgnccfaaDoor.E
set_option linter.unusedVariables false
set_option linter.unusedSimpArgs false
attribute [local go_sem] opVal opUpon
/-- A row of bytes that is read. -/
def RowB (P : List Int) (v : Value) (w : World) : Prop := ∃ B d, v = .slice B P.length d ∧ Kd.C (Kd.int .u8) w B P.length P ∧ P.length ≤ d
theorem RowB.sp (P : List Int) : SpBelow (RowB P) := fun v w w' h hb =>
  let ⟨B, d, e, hC, hd⟩ := h
  ⟨B, d, e, Kd.C_below hC hb, hd⟩
theorem RowB.of_R {P : List Int} {w : World} {n : Nat} {v : Value} (h : Kd.R (Kd.int .u8) 5 w n (fun _ => True) v P) : RowB P v w := by
  obtain ⟨B, d, rfl, hl, hC⟩ := Kd.R_reads h
  exact ⟨B, d, rfl, hC, hl⟩
theorem eq8s (s : H8) (w : World) : (Op.equalIn 10000 25 (.agg s.vals.toArray) (.agg s.vals.toArray)).run Tryd.prog w = .ok true w := eq8 (s.a : Int) (s.b : Int) (s.c : Int) (s.d : Int) (s.e : Int) (s.f : Int) (s.g : Int) (s.h : Int) w
theorem any_block (s : H8) (hs : s.ok) (l : List Int) (hb : ∀ x ∈ l, 0 ≤ x ∧ x ≤ 255) : ∃ r : H8, ∀ (A : Option Addr) (c : Nat) (w : World), Kd.C (Kd.int .u8) w A l.length l → l.length ≤ c → RootsIn w →
    (Calls Tryd.prog 26 #[.agg s.vals.toArray, .slice A l.length c] w fun e w' => e = .returned (.agg r.vals.toArray) ∧ Below w.heap.size w w') ∧
    (Calls Tryd.prog 27 #[.agg s.vals.toArray, .slice A l.length c] w fun e w' => e = .returned (.agg r.vals.toArray) ∧ Below w.heap.size w w') := by
  by_cases h : l.length = 64
  · refine ⟨blockN s l, fun A c w hC hc hG => ?_⟩
    rw [h] at hC hc ⊢
    exact ⟨block_any s hs A c l w hC hc hb hG, rblock_any s hs A c l w hC hc hb⟩
  · exact ⟨s, fun A c w hC hc hG => ⟨block_odd s A c l w hC h, rblock_odd s A c l w hC h⟩⟩
set_option maxHeartbeats 8000000 in
set_option maxRecDepth 100000 in
theorem ShaSums_at (W : World) (A0 : Option Addr) (c0 : Nat) (l0 : List Int) (hr0 : Kd.C (Kd.int .u8) W A0 l0.length l0) (hc0 : l0.length ≤ c0) (hb0 : ∀ x ∈ l0, 0 ≤ x ∧ x ≤ 255) (hl0 : l0.length ≤ 140737488351232)
    (A1 : Option Addr) (c1 : Nat) (l1 : List Int) (hr1 : Kd.C (Kd.int .u8) W A1 l1.length l1) (hc1 : l1.length ≤ c1) (hb1 : ∀ x ∈ l1, 0 ≤ x ∧ x ≤ 255) (hl1 : l1.length ≤ 140737488351232)
    (A2 : Option Addr) (c2 : Nat) (l2 : List Int) (hr2 : Kd.C (Kd.int .u8) W A2 l2.length l2) (hc2 : l2.length ≤ c2) (hb2 : ∀ x ∈ l2, 0 ≤ x ∧ x ≤ 255) (hl2 : l2.length ≤ 140737488351232)
    (a3 : Int) (w3 : (Lit.int .u64 a3).wf = true) (s : H8) (hs : s.ok) (a5 : Int) (w5 : (Lit.int .u16 a5).wf = true) (hG : RootsIn W) :
    Calls Tryd.prog 3 #[.slice A0 l0.length c0, .slice A1 l1.length c1, .slice A2 l2.length c2, .int .u64 a3, .agg s.vals.toArray, .int .u16 a5] W fun e w' => e = .returned (.bool true) ∧ Below W.heap.size W w' := by
  have kn := fun (X : World) (hX : Below W.heap.size W X) => wicketmanlaw02_known.calls true X rfl (hG.below rfl hX)
  have KN := Aside0.mk kn
  have HR0 := Aside0.mk hr0
  have HR1 := Aside0.mk hr1
  have HR2 := Aside0.mk hr2
  have HG := Aside0.mk hG
  have h3 := wf_u64 w3
  have h5 := wf_u16 w5
  obtain ⟨r1, hr1b⟩ := any_block s hs l2 hb2
  have HBK1 := Aside0.mk hr1b
  have HS := Aside0.mk hs
  have HB0 := Aside0.mk hb0
  have HB1 := Aside0.mk hb1
  have HB2 := Aside0.mk hb2
  have hSV := rfl (a := s)
  obtain ⟨s', hs'⟩ : ∃ s', s' = s := ⟨_, rfl⟩
  rw [← hs'] at HBK1 HS
  have HSV := Aside0.mk hs'
  clear hs'
  obtain ⟨x0, x1, x2, x3, x4, x5, x6, x7⟩ := s
  show Calls Tryd.prog 3 #[.slice A0 l0.length c0, .slice A1 l1.length c1, .slice A2 l2.length c2, .int .u64 a3, .agg #[.int .u32 (x0 : Int), .int .u32 (x1 : Int), .int .u32 (x2 : Int), .int .u32 (x3 : Int), .int .u32 (x4 : Int), .int .u32 (x5 : Int), .int .u32 (x6 : Int), .int .u32 (x7 : Int)], .int .u16 a5] W _
  clear kn hr0 hr1 hr2 hG w3 w5 hs hr1b hb0 hb1 hb2 hSV
  have hbox : Below W.heap.size W (W.alloc (.cells #[.int .u32 (x0 : Int), .int .u32 (x1 : Int), .int .u32 (x2 : Int), .int .u32 (x3 : Int), .int .u32 (x4 : Int), .int .u32 (x5 : Int), .int .u32 (x6 : Int), .int .u32 (x7 : Int)] 25)) := (Below.refl _ W).alloc (Nat.le_refl _) _
  have HBOX := Aside0.mk hbox
  clear hbox
  by_cases h400 : 400 < l0.length + l1.length + l2.length
  · have h4 : (400 : Int) < (l0.length : Int) + (l1.length : Int) + (l2.length : Int) := by omega
    have h4d : decide ((400 : Int) < (l0.length : Int) + (l1.length : Int) + (l2.length : Int)) = true := decide_eq_true h4
    clear h400
    go_enter Tryd.func3, Tryd.ntmps3
    go_wp2_with (go_at_call 21; ((with_reducible refine (KN.out _ HBOX.out).mono ?_); rintro e w1 ⟨rfl, hb1⟩); have HB1 := Aside0.mk (below_step HBOX.out hb1); clear hb1)
    go_ret
    exact ⟨rfl, HB1.out⟩
  have h4 : ¬ (400 : Int) < (l0.length : Int) + (l1.length : Int) + (l2.length : Int) := by omega
  have h4d : decide ((400 : Int) < (l0.length : Int) + (l1.length : Int) + (l2.length : Int)) = false := decide_eq_false h4
  have h4n : l0.length + l1.length + l2.length ≤ 400 := by omega
  clear h400
  go_enter Tryd.func3, Tryd.ntmps3
  go_wp2_with (go_at_call 21; ((with_reducible refine (KN.out _ HBOX.out).mono ?_)))
  intro e w1 he hbk
  subst he
  have hbk2 : Below (W.alloc (.cells #[.int .u32 (x0 : Int), .int .u32 (x1 : Int), .int .u32 (x2 : Int), .int .u32 (x3 : Int), .int .u32 (x4 : Int), .int .u32 (x5 : Int), .int .u32 (x6 : Int), .int .u32 (x7 : Int)] 25)).heap.size (W.alloc (.cells #[.int .u32 (x0 : Int), .int .u32 (x1 : Int), .int .u32 (x2 : Int), .int .u32 (x3 : Int), .int .u32 (x4 : Int), .int .u32 (x5 : Int), .int .u32 (x6 : Int), .int .u32 (x7 : Int)] 25)) w1 := by rw [World.size_alloc]; exact hbk
  have HBKW := Aside0.mk (below_step HBOX.out hbk2)
  have hcx := (hbk2.block W.heap.size (by rw [World.size_alloc]; omega)).trans (heap_alloc_new W _)
  have HCX := Aside0.mk hcx
  clear hcx hbk hbk2
  go_wp2_with (at_builtin; refine Kd.R_append_rows (Kd.int .u8) (w0 := w1) w1.heap.size rfl (.tmp 30) (.tmp 31) 22 5 (.int .u8 0) 1 rfl Tryd.underlying22 info5b rfl (by decide) (by omega) (.slice none 0 0) [] l0 _ _ _ (fun _ => True) (fun _ => False) rfl rfl (Kd.R_nil _ _ _ _ _) (Kd.C_below HR0.out HBKW.out) (fun _ _ h => h) (fun _ h => h.elim) (fun _ _ => trivial) (Below.refl w1.heap.size w1) (Below.refl w1.heap.size w1).size (by simp; omega) ?_)
  intro v2 w2 hRa hba _ _
  have hRa2 : Kd.R (Kd.int .u8) 5 w2 w1.heap.size (fun _ => True) v2 l0 := hRa
  obtain ⟨B1, d1, rfl⟩ := Kd.R_slice hRa2
  have HRA := Aside0.mk hRa2
  have HBA := Aside0.mk hba
  clear hRa hRa2 hba
  go_wp2_with (at_builtin; refine Kd.R_append_rows (Kd.int .u8) (w0 := w1) w1.heap.size rfl (.tmp 33) (.tmp 34) 22 5 (.int .u8 0) 1 rfl Tryd.underlying22 info5b rfl (by decide) (by omega) (.slice B1 l0.length d1) l0 l1 _ _ _ (fun _ => True) (fun _ => False) rfl rfl HRA.out (Kd.C_below HR1.out (below_step HBKW.out HBA.out)) (fun _ _ h => h) (fun _ h => h.elim) (fun _ _ => trivial) HBA.out HBA.out.size (by simp; omega) ?_)
  intro v3 w3 hRb hbb _ _
  obtain ⟨B2, d2, rfl⟩ := Kd.R_slice hRb
  have HRB := Aside0.mk hRb
  have HBB := Aside0.mk hbb
  clear hRb hbb HRA
  go_wp2_with (at_builtin; refine Kd.R_append_rows (Kd.int .u8) (w0 := w1) w1.heap.size rfl (.tmp 36) (.tmp 37) 22 5 (.int .u8 0) 1 rfl Tryd.underlying22 info5b rfl (by decide) (by omega) (.slice B2 (l0 ++ l1).length d2) (l0 ++ l1) l2 _ _ _ (fun _ => True) (fun _ => False) rfl rfl HRB.out (Kd.C_below HR2.out (below_step HBKW.out HBB.out)) (fun _ _ h => h) (fun _ h => h.elim) (fun _ _ => trivial) HBB.out HBB.out.size (by simp; omega) ?_)
  intro v4 w4 hRc hbc _ _
  obtain ⟨xs, hxs⟩ : ∃ xs, xs = l0 ++ (l1 ++ l2) := ⟨_, rfl⟩
  rw [← hxs] at hRc
  obtain ⟨B3, d3, rfl, hl3, hC3⟩ := Kd.R_reads hRc
  have hxl : xs.length ≤ 400 := by rw [hxs, List.length_append, List.length_append]; omega
  have hxb : ∀ x ∈ xs, 0 ≤ x ∧ x ≤ 255 := by
    intro x hx
    rw [hxs] at hx
    rcases List.mem_append.1 hx with h | h
    · exact HB0.out x h
    · rcases List.mem_append.1 h with h | h
      · exact HB1.out x h
      · exact HB2.out x h
  have HXS := Aside0.mk hxs
  have HXB := Aside0.mk hxb
  have HC3 := Aside0.mk hC3
  have HBC := Aside0.mk hbc
  clear hRc hbc HRB hxs hxb hC3
  go_wp2_with (at_builtin; refine Kd.R_append_rows (Kd.int .u8) (w0 := w4) w4.heap.size rfl (.tmp 39) (.tmp 40) 22 5 (.int .u8 0) 1 rfl Tryd.underlying22 info5b rfl (by decide) (by omega) (.slice none 0 0) [] xs _ _ _ (fun _ => True) (fun _ => False) rfl rfl (Kd.R_nil _ _ _ _ _) HC3.out (fun _ _ h => h) (fun _ h => h.elim) (fun _ _ => trivial) (Below.refl w4.heap.size w4) (Below.refl w4.heap.size w4).size (by simp; omega) ?_)
  intro v5 w5 hRd hbd _ _
  have hRd2 : Kd.R (Kd.int .u8) 5 w5 w4.heap.size (fun _ => True) v5 xs := hRd
  obtain ⟨B4, d4, rfl⟩ := Kd.R_slice hRd2
  have HRD := Aside0.mk hRd2
  have HBD := Aside0.mk hbd
  clear hRd hRd2 hbd
  go_wp2_with (at_builtin; refine Kd.R_append_zeros (Kd.int .u8) w4.heap.size rfl (.tmp 42) (.const (.int .i64 64)) 22 3 5 (.int .u8 0) 1 rfl Tryd.underlying22 Tryd.underlying3 info5b rfl (by decide) (by decide) (.slice B4 xs.length d4) xs 0 64 (fun _ => True) rfl rfl rfl (fun _ _ => trivial) HRD.out (by decide) HBD.out HBD.out.size (by simp; omega) ?_)
  intro v6 w6 hRe hbe _ _
  obtain ⟨zs, hzs⟩ : ∃ zs, zs = xs ++ List.replicate 64 0 := ⟨_, rfl⟩
  have hzl : zs.length = xs.length + 64 := by rw [hzs, List.length_append, List.length_replicate]
  have hRe2 : Kd.R (Kd.int .u8) 5 w6 w4.heap.size (fun _ => True) v6 zs := by rw [hzs]; exact hRe
  obtain ⟨B5, d5, rfl, hl5, hC5⟩ := Kd.R_reads hRe2
  have hzb : ∀ x ∈ zs.take 64, 0 ≤ x ∧ x ≤ 255 := by
    intro x hx
    have hx := List.mem_of_mem_take hx
    rw [hzs] at hx
    rcases List.mem_append.1 hx with h | h
    · exact HXB.out x h
    · rw [List.eq_of_mem_replicate h]; omega
  have ht64 : (zs.take 64).length = 64 := by rw [List.length_take]; omega
  have hC64 : Kd.C (Kd.int .u8) w6 B5 64 (zs.take 64) := by
    have := Kd.C_take hC5 (m := 64) (by omega)
    rwa [ht64] at this
  have hW6 := below_step (below_step HBKW.out HBC.out) hbe
  obtain ⟨r2, hr2⟩ := any_block s' HS.out (zs.take 64) hzb
  rw [ht64] at hr2
  obtain ⟨n, rfl⟩ : ∃ n : Nat, a3 = (n : Int) := ⟨a3.toNat, by omega⟩
  obtain ⟨k, rfl⟩ : ∃ k : Nat, a5 = (k : Int) := ⟨a5.toNat, by omega⟩
  have hk64 : IntKind.u64.wrap (k : Int) = (k : Int) := wraps_u64 _ (by omega) (by omega)
  obtain ⟨PN, hPN⟩ : ∃ P, P = padL n := ⟨_, rfl⟩
  obtain ⟨PK, hPK⟩ : ∃ P, P = padL k := ⟨_, rfl⟩
  obtain ⟨D, hD⟩ : ∃ D, D = shaL xs := ⟨_, rfl⟩
  have HP1 := Aside0.mk (fun (X : World) => (sha_Pad.calls 9 (n : Int) PN X (by rw [hPN]; exact pad_some n (by omega))).mono (by rintro e w' ⟨v, rfl, hR, hb⟩; exact ⟨v, rfl, RowB.of_R hR, hb⟩ : ∀ e w', _ → ∃ v, e = .returned v ∧ RowB PN v w' ∧ Below X.heap.size X w'))
  have HP2 := Aside0.mk (fun (X : World) => (wicketmanref02_Pad.calls 120 (n : Int) PN X (by rw [hPN]; exact ref_pad n (by omega) 120 (Nat.le_refl _))).mono (by rintro e w' ⟨v, rfl, hR, hb⟩; exact ⟨v, rfl, RowB.of_R hR, hb⟩ : ∀ e w', _ → ∃ v, e = .returned v ∧ RowB PN v w' ∧ Below X.heap.size X w'))
  have HK1 := Aside0.mk (fun (X : World) => (sha_Pad.calls 9 (k : Int) PK X (by rw [hPK]; exact pad_some k (by omega))).mono (by rintro e w' ⟨v, rfl, hR, hb⟩; exact ⟨v, rfl, RowB.of_R hR, hb⟩ : ∀ e w', _ → ∃ v, e = .returned v ∧ RowB PK v w' ∧ Below X.heap.size X w'))
  have HK2 := Aside0.mk (fun (X : World) => (wicketmanref02_Pad.calls 120 (k : Int) PK X (by rw [hPK]; exact ref_pad k (by omega) 120 (Nat.le_refl _))).mono (by rintro e w' ⟨v, rfl, hR, hb⟩; exact ⟨v, rfl, RowB.of_R hR, hb⟩ : ∀ e w', _ → ∃ v, e = .returned v ∧ RowB PK v w' ∧ Below X.heap.size X w'))
  have HS3 := Aside0.mk (fun (X : World) (hX : Below w6.heap.size w6 X) (v : Value) (hv : RowVal #[.slice A0 l0.length c0, .slice A1 l1.length c1, .slice A2 l2.length c2] v X) =>
    sum3_of D X A0 l0.length c0 l0 A1 l1.length c1 l1 A2 l2.length c2 l2 (Kd.C_below HR0.out (below_step hW6 hX)) hc0 (Kd.C_below HR1.out (below_step hW6 hX)) hc1 (Kd.C_below HR2.out (below_step hW6 hX)) hc2 xs HXS.out.symm hD.symm (by omega) HXB.out (HG.out.below rfl (below_step hW6 hX)) v hv)
  have HRS := Aside0.mk (fun (X : World) (hX : Below w6.heap.size w6 X) => (rsum_any B3 d3 xs X (Kd.C_below (Kd.C_below HC3.out hbe) hX) hl3 (by omega) HXB.out).mono (by
    rintro e w' ⟨v, rfl, hR, hb⟩
    obtain ⟨B, d, rfl, hl, hC⟩ := Kd.R_reads hR
    rw [shaL_len] at hC hl ⊢
    exact ⟨_, rfl, ⟨B, d, rfl, by rw [hD]; exact hC, hl⟩, hb⟩ : ∀ e w', _ → ∃ v, e = .returned v ∧ SumVal D v w' ∧ Below X.heap.size X w'))
  have hcx6 := (hbe.block _ (Nat.lt_of_lt_of_le (Array.getElem?_eq_some_iff.1 HCX.out).1 HBC.out.size)).trans ((HBC.out.block _ (Array.getElem?_eq_some_iff.1 HCX.out).1).trans HCX.out)
  have HCX6 := Aside0.mk hcx6
  rw [HSV.out] at HBK1 hr2
  have HBA1 := Aside0.mk (fun (X : World) (hX : Below w6.heap.size w6 X) => (HBK1.out A2 c2 X (Kd.C_below HR2.out (below_step hW6 hX)) hc2 (HG.out.below rfl (below_step hW6 hX))).1)
  have HBA2 := Aside0.mk (fun (X : World) (hX : Below w6.heap.size w6 X) => (HBK1.out A2 c2 X (Kd.C_below HR2.out (below_step hW6 hX)) hc2 (HG.out.below rfl (below_step hW6 hX))).2)
  have HBB1 := Aside0.mk (fun (X : World) (hX : Below w6.heap.size w6 X) => (hr2 B5 d5 X (Kd.C_below hC64 hX) (by omega) (HG.out.below rfl (below_step hW6 hX))).1)
  have HBB2 := Aside0.mk (fun (X : World) (hX : Below w6.heap.size w6 X) => (hr2 B5 d5 X (Kd.C_below hC64 hX) (by omega) (HG.out.below rfl (below_step hW6 hX))).2)
  simp only [H8.vals] at HBA1 HBA2 HBB1 HBB2
  have hcut : ∀ X : World, (Instr.slice 22 (.slice B5 (xs.length + 64) d5) none (some (.int .i64 64)) none).run Tryd.prog X = .ok (.slice B5 64 d5) X := by
    obtain ⟨i0, hi0, hz0, hz1, hz2⟩ := info_parts info5b
    exact cut_hi (P := Tryd.prog) 22 5 .i64 Tryd.underlying22 B5 (xs.length + 64) d5 64 (by omega) (by omega) (by omega) hi0 hz1
  rw [hzl] at hl5 ⊢
  have HW6 := Aside0.mk hW6
  clear hRe hRe2 hbe hC5 hzb hC64 hr2 hPN hPK hD hcx6 HRD HBD HC3 hzs ht64 hW6 HBA HBB h4 h4d hzl
  go_wp2
  refine wp_region_inv_ex (fun X => Below w6.heap.size w6 X) (fun X Y => Below X.heap.size X Y) (BOf
      [some (.slice A0 l0.length c0), some (.slice A1 l1.length c1), some (.slice A2 l2.length c2), none, none, some (.string (strOfNums D)), some (.slice B3 xs.length d3), none, some (.string (strOfNums D)), some (.bool true), some (.bool true), some (.int .u64 (n : Int)), none, some (.string (strOfNums PN)), some (.int .u64 (n : Int)), none, some (.string (strOfNums PN)), some (.bool true), some (.bool true), some (.bool true), some (.int .u16 (k : Int)), some (.int .u64 (k : Int)), none, some (.string (strOfNums PK)), some (.int .u16 (k : Int)), some (.int .u64 (k : Int)), none, some (.string (strOfNums PK)), some (.bool true), some (.bool true), some (.bool true)]
      [(3, RowVal #[.slice A0 l0.length c0, .slice A1 l1.length c1, .slice A2 l2.length c2]), (4, SumVal D), (7, SumVal D), (12, RowB PN), (15, RowB PN), (22, RowB PK), (26, RowB PK)])
    (by kernel_rfl) (by kernel_rfl) (by kernel_rfl) (fun X => Below.refl _ X) (BOf_below ?hspA) (Below.refl _ _).drew ?allA
  case hspA => simp [SumVal.sp, RowVal.sp, RowB.sp]
  apply Exists.intro
  refine ⟨?hAA, ?stepsA, ?finA⟩
  case hAA =>
    simp only [lay, Act.put, List.setIfInBounds_toArray, List.set_cons_zero, List.set_cons_succ]
    exact rfl
  case stepsA =>
    repeat' (first | exact Steps.nil | refine Steps.cons ?_ ?_)
    all_goals (intro us X F hC hd hF; simp only [Deps, BOf, pureAt, spAt] at hd hF)
    all_goals (try simp only [Nat.reduceAdd, Nat.reduceEqDiff, false_implies, true_implies, and_true, true_and] at hd hF)
    all_goals (try (first | (refine Exists.elim (show SumVal D _ _ from (by first | exact hd | exact hd.1)) ?_; rintro B ⟨d, e, hCg, hdg⟩; have hs := Kd.C_string (P := Tryd.prog) (c := d) Tryd.underlying22 Tryd.underlying5 Tryd.underlying9 hCg) | (refine Exists.elim (show RowB PN _ _ from (by first | exact hd | exact hd.1)) ?_; rintro B ⟨d, e, hCg, hdg⟩; have hs := Kd.C_string (P := Tryd.prog) (c := d) Tryd.underlying22 Tryd.underlying5 Tryd.underlying9 hCg) | (refine Exists.elim (show RowB PK _ _ from (by first | exact hd | exact hd.1)) ?_; rintro B ⟨d, e, hCg, hdg⟩; have hs := Kd.C_string (P := Tryd.prog) (c := d) Tryd.underlying22 Tryd.underlying5 Tryd.underlying9 hCg)))
    all_goals go_simp
    all_goals (first
      | exact hF _ _ hC (Below.refl _ _) rfl
      | exact hF _ _ (hC.alloc hC.size _) ((Below.refl _ _).alloc (Nat.le_refl _) _) (RowVal.new _ _)
      | ((with_reducible refine (HS3.out _ hC _ (by first | exact hd | exact hd.1)).mono ?_); rintro e w' ⟨v, rfl, hv, hb⟩; exact ⟨_, rfl, hF _ _ (below_step hC hb) hb hv⟩)
      | ((with_reducible refine (HRS.out _ hC).mono ?_); rintro e w' ⟨v, rfl, hv, hb⟩; exact ⟨_, rfl, hF _ _ (below_step hC hb) hb hv⟩)
      | ((with_reducible refine (HP1.out _).mono ?_); rintro e w' ⟨v, rfl, hv, hb⟩; exact ⟨_, rfl, hF _ _ (below_step hC hb) hb hv⟩)
      | ((with_reducible refine (HP2.out _).mono ?_); rintro e w' ⟨v, rfl, hv, hb⟩; exact ⟨_, rfl, hF _ _ (below_step hC hb) hb hv⟩)
      | ((with_reducible refine (HK1.out _).mono ?_); rintro e w' ⟨v, rfl, hv, hb⟩; exact ⟨_, rfl, hF _ _ (below_step hC hb) hb hv⟩)
      | ((with_reducible refine (HK2.out _).mono ?_); rintro e w' ⟨v, rfl, hv, hb⟩; exact ⟨_, rfl, hF _ _ (below_step hC hb) hb hv⟩))
  case finA =>
    intro us X hC hB
    have h30 : us 30 = .bool true := (hB 30 (by decide)).1
    rw [h30]
    clear hB
    have hC0 := hC.drew
    obtain ⟨wz, hwz⟩ : ∃ wz, wz = X := ⟨_, rfl⟩
    go_wp2
    refine wp_region_inv_ex (fun X => Below w6.heap.size w6 X) (fun X Y => Below X.heap.size X Y) (BOf
        [some (.bool true), some (.bool true), some (.agg #[.int .u32 (x0 : Int), .int .u32 (x1 : Int), .int .u32 (x2 : Int), .int .u32 (x3 : Int), .int .u32 (x4 : Int), .int .u32 (x5 : Int), .int .u32 (x6 : Int), .int .u32 (x7 : Int)]), some (.slice A2 l2.length c2), some (.agg r1.vals.toArray), some (.agg #[.int .u32 (x0 : Int), .int .u32 (x1 : Int), .int .u32 (x2 : Int), .int .u32 (x3 : Int), .int .u32 (x4 : Int), .int .u32 (x5 : Int), .int .u32 (x6 : Int), .int .u32 (x7 : Int)]), some (.slice A2 l2.length c2), some (.agg r1.vals.toArray), some (.bool true), some (.bool true), some (.bool true), some (.agg #[.int .u32 (x0 : Int), .int .u32 (x1 : Int), .int .u32 (x2 : Int), .int .u32 (x3 : Int), .int .u32 (x4 : Int), .int .u32 (x5 : Int), .int .u32 (x6 : Int), .int .u32 (x7 : Int)]), some (.slice B5 (xs.length + 64) d5), some (.slice B5 64 d5), some (.agg r2.vals.toArray), some (.agg #[.int .u32 (x0 : Int), .int .u32 (x1 : Int), .int .u32 (x2 : Int), .int .u32 (x3 : Int), .int .u32 (x4 : Int), .int .u32 (x5 : Int), .int .u32 (x6 : Int), .int .u32 (x7 : Int)]), some (.slice B5 (xs.length + 64) d5), some (.slice B5 64 d5), some (.agg r2.vals.toArray), some (.bool true), some (.bool true), some (.bool true)]
        [])
      (by kernel_rfl) (by kernel_rfl) (by kernel_rfl) (fun X => Below.refl _ X) (BOf_below ?hspB) hC0 ?allB
    case hspB => simp
    apply Exists.intro
    refine ⟨?hAB, ?stepsB, ?finB⟩
    case hAB =>
      simp only [lay, Act.put, List.setIfInBounds_toArray, List.set_cons_zero, List.set_cons_succ]
      exact rfl
    case stepsB =>
      repeat' (first | exact Steps.nil | refine Steps.cons ?_ ?_)
      all_goals (intro us X F hC hd hF; simp only [Deps, BOf, pureAt, spAt] at hd hF)
      all_goals (try simp only [Nat.reduceAdd, Nat.reduceEqDiff, false_implies, true_implies, and_true, true_and] at hd hF)
      all_goals (have hcx := (hC.block _ (Array.getElem?_eq_some_iff.1 HCX6.out).1).trans HCX6.out; obtain ⟨q0, q1, q2, q3, q4, q5, q6, q7⟩ := cell8 (s := H8.mk x0 x1 x2 x3 x4 x5 x6 x7) hcx; have he1 := eq8s r1; have he2 := eq8s r2)
      all_goals go_simp
      all_goals (first
        | exact hF _ _ hC (Below.refl _ _) rfl
        | ((with_reducible refine (HBA1.out _ hC).mono ?_); rintro e w' ⟨rfl, hb⟩; exact ⟨_, rfl, hF _ _ (below_step hC hb) hb rfl⟩)
        | ((with_reducible refine (HBA2.out _ hC).mono ?_); rintro e w' ⟨rfl, hb⟩; exact ⟨_, rfl, hF _ _ (below_step hC hb) hb rfl⟩)
        | ((with_reducible refine (HBB1.out _ hC).mono ?_); rintro e w' ⟨rfl, hb⟩; exact ⟨_, rfl, hF _ _ (below_step hC hb) hb rfl⟩)
        | ((with_reducible refine (HBB2.out _ hC).mono ?_); rintro e w' ⟨rfl, hb⟩; exact ⟨_, rfl, hF _ _ (below_step hC hb) hb rfl⟩))
    case finB =>
      intro us X hC hB
      have h21 : us 21 = .bool true := (hB 21 (by decide)).1
      rw [h21]
      go_wp2
      go_ret
      exact ⟨rfl, below_step HW6.out hC⟩
end Go.Proofs.YtfmdpkilgnccfaaDoor.Pure
