/- MacProves: a code proves its own message alone, and with any bit another one nothing. -/
import Derived.Test.YtfmdpkilgnccfaaDoorMacL
import Derived.Test.YtfmdpkilgnccfaaDoorWZeros
import Derived.Lib.MinMax
namespace Go.Proofs.YtfmdpkilgnccfaaDoor.Pure
open Go.RowKit Go.Proofs.YtfmdpkilgnccfaaDoorW.PrintWords Go.Proofs.YtfmdpkilgnccfaaDoorW.PrintLast Go.Proofs.YtfmdpkilgnccfaaDoorW.PrintMore Go.Proofs.YtfmdpkilgnccfaaDoor.Pr Go.Proofs.YtfmdpkilgnccfaaDoor.E
set_option linter.unusedVariables false
set_option linter.unusedSimpArgs false
attribute [local go_sem] opVal opUpon
theorem c_take {w : World} {A : Option Addr} {l : List Int} (h : Kd.C (Kd.int .u8) w A l.length l) (m : Nat) (hm : m ≤ l.length) : Kd.C (Kd.int .u8) w A m (l.take m) := by
  by_cases h0 : m = 0
  · subst h0; rw [List.take_zero]; exact Kd.C_empty _ _
  · obtain ⟨ad, rfl, -⟩ := Kd.at_int h 0 (by omega) (by omega)
    have := C_sub h 0 m (by omega)
    rw [List.drop_zero, Addr.add_zero'] at this
    exact this
set_option maxHeartbeats 8000000 in
set_option maxRecDepth 100000 in
theorem MacProves_real (W : World) (A0 : Option Addr) (c0 : Nat) (l0 : List Int) (hr0 : Kd.C (Kd.int .u8) W A0 l0.length l0) (hc0 : l0.length ≤ c0) (hb0 : ∀ x ∈ l0, 0 ≤ x ∧ x ≤ 255) (hl0 : l0.length ≤ 140737488351232) (A1 : Option Addr) (c1 : Nat) (l1 : List Int) (hr1 : Kd.C (Kd.int .u8) W A1 l1.length l1) (hc1 : l1.length ≤ c1) (hb1 : ∀ x ∈ l1, 0 ≤ x ∧ x ≤ 255) (hl1 : l1.length ≤ 140737488351232) (a2 : Int) (w2 : (Lit.int .u8 a2).wf = true) (hG : RootsIn W) (n0 : l0.length ≤ 100) (n1 : l1.length ≤ 100) :
    Calls Tryd.prog 14 #[.slice A0 l0.length c0, .slice A1 l1.length c1, .int .u8 a2, .bool false] W fun e w' => e = .returned (.bool true) ∧ Below W.heap.size W w' := by
  have h2 := wf_u8 w2
  have KN := Aside0.mk (fun (X : World) (hX : Below W.heap.size W X) => known3 X (hG.below rfl hX))
  have g1 : ¬ (100 : Int) < (l0.length : Int) := by omega
  have g2 : decide ((100 : Int) < (l0.length : Int)) = false := decide_eq_false g1
  have g3 : ¬ (100 : Int) < (l1.length : Int) := by omega
  have g4 : decide ((100 : Int) < (l1.length : Int)) = false := decide_eq_false g3
  obtain ⟨j, hj⟩ : ∃ j : Nat, (j : Int) = a2 % 32 := ⟨(a2 % 32).toNat, by omega⟩
  obtain ⟨q, hq⟩ : ∃ q : Nat, (q : Int) = a2 / 32 := ⟨(a2 / 32).toNat, by omega⟩
  have hj32 : j < 32 := by omega
  have hq8 : q < 8 := by omega
  have e5 : a2 % 32 = (j : Int) := by omega
  have e6 : a2 / 32 = (q : Int) := by omega
  have e7 : Int.tdiv a2 32 = (q : Int) := by rw [Int.tdiv_eq_ediv_of_nonneg h2.1]; exact e6
  have HR0 := Aside0.mk hr0
  have HR1 := Aside0.mk hr1
  have HB0 := Aside0.mk hb0
  have HB1 := Aside0.mk hb1
  have HG := Aside0.mk hG
  have HRE := Aside0.mk (real_any A0 c0 l0 W hr0 hc0 (by omega))
  have q1 := rNilM
  have q2 := rNilP
  have q3 := rMetM
  have q4 := rMetP
  clear hr0 hr1 hb0 hb1 hG w2 hj hq
  go_enter Tryd.func14, Tryd.ntmps14
  go_wp2_with (go_at_call 40; ((with_reducible refine (HRE.out).mono ?_)))
  rintro e w1 ⟨v1, rfl, hV1, hb1⟩
  obtain ⟨B1, d1, rfl, hl1b, hC1⟩ := Kd.R_reads hV1
  have HC1 := Aside0.mk hC1
  have HW1 := Aside0.mk hb1
  clear hV1 hb1 hC1 HRE
  obtain ⟨H, hH⟩ : ∃ H, H = codeL l0 l1 := ⟨_, rfl⟩
  have H32 : H.length = 32 := by rw [hH]; exact codeL_len _ _
  have hHb : ∀ x ∈ H, 0 ≤ x ∧ x ≤ 255 := by rw [hH]; exact codeL_bytes _ _
  have hmk : ∀ X, Below w1.heap.size w1 X → Calls Tryd.prog 87 #[.agg #[.slice B1 l0.length d1], .slice A1 l1.length c1] X (RowPost H X) := fun X hX => by
    rw [hH]
    exact mmake_any B1 d1 l0 A1 c1 l1 X (Kd.C_below HC1.out hX) hl1b HB0.out (by omega) (Kd.C_below HR1.out (below_step HW1.out hX)) hc1 HB1.out (by omega) (HG.out.below rfl (below_step HW1.out hX))
  have hpv : ∀ X, Below w1.heap.size w1 X → ∀ B d n (l : List Int), n = l.length → Kd.C (Kd.int .u8) X B l.length l → l.length ≤ d → (∀ x ∈ l, 0 ≤ x ∧ x ≤ 255) → Calls Tryd.prog 88 #[.agg #[.slice B1 l0.length d1], .slice A1 l1.length c1, .slice B n d] X (BoolPost (decide (H = l)) X) := fun X hX B d n l hn hC hd hb => by
    rw [hH, hn]
    exact mprove_any B1 d1 l0 A1 c1 l1 B d l X (Kd.C_below HC1.out hX) hl1b HB0.out (by omega) (Kd.C_below HR1.out (below_step HW1.out hX)) hc1 HB1.out (by omega) hC hd hb (HG.out.below rfl (below_step HW1.out hX))
  have HMK := Aside0.mk hmk
  have HPV := Aside0.mk hpv
  have HS32 := Aside0.mk H32
  have HHB := Aside0.mk hHb
  have hm1 := hmk w1 (Below.refl _ _)
  have HM1 := Aside0.mk hm1
  clear hmk hpv H32 hHb hH hm1
  go_wp2_with (go_at_call 87; ((with_reducible refine (HM1.out).mono ?_)))
  rintro e w3 ⟨v3, rfl, hR3, hb3⟩
  have hnr := NewRow.of_R hR3 (by rw [HS32.out]; decide)
  have HW13 := Aside0.mk hb3
  clear hR3 hb3
  obtain ⟨g, d3, rfl⟩ : ∃ g d, v3 = .slice (some ⟨g, 0, none⟩) H.length d := by
    obtain ⟨g, d, lo, hi, cells, e0, -⟩ := hnr
    exact ⟨g, d, e0⟩
  obtain ⟨hg1, lo, hi, cells, hgc, hfr, hd3, hC3⟩ := newrow_cells hnr rfl
  rw [HS32.out] at hC3 hd3 ⊢
  have hst := Kd.C_string (P := Tryd.prog) (c := d3) Tryd.underlying22 Tryd.underlying5 Tryd.underlying9 hC3
  have hone := HPV.out w3 HW13.out (some ⟨g, 0, none⟩) d3 32 H HS32.out.symm (by rw [HS32.out]; exact hC3) (by rw [HS32.out]; exact hd3) HHB.out
  rw [decide_eq_true rfl] at hone
  have HONE := Aside0.mk hone
  have HNR := Aside0.mk hnr
  have HC3 := Aside0.mk hC3
  have HG1 := Aside0.mk hg1
  clear hone hnr hC3 hgc hfr hg1
  go_wp2_with (go_at_call 88; ((with_reducible refine (HONE.out).mono ?_)))
  rintro e w4 ⟨rfl, hb4⟩
  have hlt : g < w3.heap.size := by
    obtain ⟨-, lo, hi, cells, hgc, -⟩ := newrow_cells HNR.out rfl
    exact (Array.getElem?_eq_some_iff.1 hgc).1
  have hn4 : NewRow w1.heap.size H (.slice (some ⟨g, 0, none⟩) H.length d3) w4 := by
    obtain ⟨h1, lo, hi, cells, hgc, hfr, hd, hC⟩ := newrow_cells HNR.out rfl
    exact ⟨g, d3, lo, hi, cells, rfl, h1, (hb4.block g hlt).trans hgc, hfr, hd, Kd.C_below hC hb4⟩
  obtain ⟨hcx, hcf, hC5⟩ := newrow_spoil hn4 j (by rw [HS32.out]; exact hj32) (bits .xor .u8 (H.getD j 0) (2 ^ q % 256))
  obtain ⟨hne, hGb⟩ := bit_ne H HHB.out j q (by rw [HS32.out]; exact hj32) hq8
  obtain ⟨V, hV⟩ : ∃ V, V = bits .xor .u8 (H.getD j 0) (2 ^ q % 256) := ⟨_, rfl⟩
  rw [← hV] at hC5 hne hGb
  obtain ⟨y, hy⟩ : ∃ y, y = H.getD j 0 := ⟨_, rfl⟩
  rw [← hy] at hV hcx
  obtain ⟨G, hG5⟩ : ∃ G, G = H.set j V := ⟨_, rfl⟩
  have hGl : G.length = 32 := by rw [hG5, List.length_set]; exact HS32.out
  rw [← hG5] at hC5 hne hGb
  obtain ⟨X0, hX0⟩ : ∃ X0, X0 = w4.setCell ⟨g, j, none⟩ (.int .u8 V) := ⟨_, rfl⟩
  rw [← hX0, HS32.out] at hC5
  have hb14 := below_step HW13.out hb4
  have hb10 : Below w1.heap.size w1 X0 := by rw [hX0]; exact hb14.setCell HG1.out _
  have hW0 := below_step HW1.out hb10
  have HX0 := Aside0.mk hX0
  have HV := Aside0.mk hV
  have HW0 := Aside0.mk hW0
  have hcv := fun X : World => (conv_row H HHB.out (by rw [HS32.out]; decide) X).1
  have HCV := Aside0.mk (fun X : World => (conv_row H HHB.out (by rw [HS32.out]; decide) X).2)
  have HPT : Aside0 (∀ X, Below X0.heap.size X0 X → ∀ B d, Kd.C (Kd.int .u8) X B H.length H → H.length ≤ d → Calls Tryd.prog 88 #[.agg #[.slice B1 l0.length d1], .slice A1 l1.length c1, .slice B H.length d] X (BoolPost true X)) := ⟨fun X hX B d hC hd => by
    have := HPV.out X (below_step hb10 hX) B d H.length H rfl hC hd HHB.out
    rwa [decide_eq_true rfl] at this⟩
  have HPF : Aside0 (∀ X, Below X0.heap.size X0 X → Calls Tryd.prog 88 #[.agg #[.slice B1 l0.length d1], .slice A1 l1.length c1, .slice (some ⟨g, 0, none⟩) 32 d3] X (BoolPost false X)) := ⟨fun X hX => by
    have := HPV.out X (below_step hb10 hX) (some ⟨g, 0, none⟩) d3 32 G hGl.symm (by rw [hGl]; exact Kd.C_below hC5 hX) (by rw [hGl]; exact hd3) hGb
    rwa [decide_eq_false hne] at this⟩
  have HPS : Aside0 (∀ X, Below X0.heap.size X0 X → Calls Tryd.prog 88 #[.agg #[.slice B1 l0.length d1], .slice A1 l1.length c1, .slice (some ⟨g, 0, none⟩) 31 d3] X (BoolPost false X)) := ⟨fun X hX => by
    have ht : (G.take 31).length = 31 := by rw [List.length_take, hGl]; decide
    have hz : Kd.C (Kd.int .u8) X (some ⟨g, 0, none⟩) G.length G := by rw [hGl]; exact Kd.C_below hC5 hX
    have hz2 := c_take hz 31 (by rw [hGl]; decide)
    have := HPV.out X (below_step hb10 hX) (some ⟨g, 0, none⟩) d3 31 (G.take 31) ht.symm (by rw [ht]; exact hz2) (by rw [ht]; omega) (fun x hx => hGb x (List.mem_of_mem_take hx))
    rwa [decide_eq_false (fun e => by have := congrArg List.length e; rw [HS32.out, ht] at this; cases this)] at this⟩
  have HPN : Aside0 (∀ X, Below X0.heap.size X0 X → Calls Tryd.prog 88 #[.agg #[.slice B1 l0.length d1], .slice A1 l1.length c1, .slice none 0 0] X (BoolPost false X)) := ⟨fun X hX => by
    have := HPV.out X (below_step hb10 hX) none 0 0 [] rfl (Kd.C_empty _ _) (Nat.le_refl _) (by simp)
    rwa [decide_eq_false (fun e => by have := congrArg List.length e; rw [HS32.out] at this; cases this)] at this⟩
  have HMA : Aside0 (∀ X, Below X0.heap.size X0 X → Calls Tryd.prog 87 #[.agg #[.slice B1 l0.length d1], .slice A1 l1.length c1] X (RowBPost H X)) := ⟨fun X hX => rowb_of (HMK.out X (below_step hb10 hX))⟩
  clear hb4 hlt hn4 hC5 hne hGb hGl hb14 hb10 hX0 hV hy hW0 hG5 
  obtain ⟨nA, hnA⟩ : ∃ n, n = l1.length := ⟨_, rfl⟩
  obtain ⟨nK, hnK⟩ : ∃ n, n = l0.length := ⟨_, rfl⟩
  rw [← hnA] at HPT HPF HPS HPN HMA
  rw [← hnK] at HPT HPF HPS HPN HMA
  rw [← hnA, ← hnK]
  clear hnA hnK
  have hd31 : (31 : Int) ≤ (d3 : Int) := by omega
  go_wp2
  rw [← HV.out, ← HX0.out]
  refine wp_region_inv_ex (fun X => Below X0.heap.size X0 X) (fun X Y => Below X.heap.size X Y) (BOf
      [some (.bool true), some (.bool true), some (.bool true), some (.bool true), some (.bool true), some (.iface 82 (.agg #[.slice B1 nK d1])), some (.slice A1 nA c1), some (.slice (some ⟨g, 0, none⟩) 32 d3), some (.bool false), some (.bool true), some (.bool true), some (.bool true), some (.iface 82 (.agg #[.slice B1 nK d1])), some (.slice A1 nA c1), none, some (.string (strOfNums H)), some (.string (strOfNums H)), some (.bool true), some (.bool true), some (.bool true), some (.iface 82 (.agg #[.slice B1 nK d1])), some (.slice A1 nA c1), some (.string (strOfNums H)), none, some (.bool true), some (.bool true), some (.bool true), some (.iface 82 (.agg #[.slice B1 nK d1])), some (.slice A1 nA c1), some (.slice (some ⟨g, 0, none⟩) 32 d3), some (.slice (some ⟨g, 0, none⟩) 31 d3), some (.func (.method "Prove") #[.iface 82 (.agg #[.slice B1 nK d1])] #[]), none, some (.iface 82 (.agg #[.slice B1 nK d1])), some (.bool false), some (.bool true), some (.bool true), some (.bool true), some (.iface 82 (.agg #[.slice B1 nK d1])), some (.slice A1 nA c1), some (.bool false), some (.bool true), some (.bool true), some (.bool true)]
      [(14, RowB H), (23, RowB H)])
    (by kernel_rfl) (by kernel_rfl) (by kernel_rfl) (fun X => Below.refl _ X) (BOf_below ?hspS) (Below.refl _ _).drew ?allS
  case hspS => simp [RowB.sp]
  apply Exists.intro
  refine ⟨?hAS, ?stepsS, ?finS⟩
  case hAS =>
    simp only [lay, Act.put, List.setIfInBounds_toArray, List.set_cons_zero, List.set_cons_succ, Nat.zero_add, Nat.reduceAdd]
    exact rfl
  case stepsS =>
    repeat' (first | exact Steps.nil | refine Steps.cons ?_ ?_)
    all_goals (intro us X F hC hd hF; simp only [Deps, BOf, pureAt, spAt] at hd hF)
    all_goals (try simp only [Nat.reduceAdd, Nat.reduceEqDiff, false_implies, true_implies, and_true, true_and] at hd hF)
    all_goals ((try (first | (refine Exists.elim (show RowB H _ _ from hd) ?_; rintro B ⟨dd, e, hCg, hdg⟩; have hsB := Kd.C_string (P := Tryd.prog) (c := dd) Tryd.underlying22 Tryd.underlying5 Tryd.underlying9 hCg) | (refine Exists.elim (show RowB H _ _ from hd.1) ?_; rintro B ⟨dd, e, hCg, hdg⟩; have hsB := Kd.C_string (P := Tryd.prog) (c := dd) Tryd.underlying22 Tryd.underlying5 Tryd.underlying9 hCg) | (refine Exists.elim (show RowB H _ _ from hd.2) ?_; rintro B ⟨dd, e, hCg, hdg⟩; have hsB := Kd.C_string (P := Tryd.prog) (c := dd) Tryd.underlying22 Tryd.underlying5 Tryd.underlying9 hCg) | (refine Exists.elim (show RowB H _ _ from hd.2.1) ?_; rintro B ⟨dd, e, hCg, hdg⟩; have hsB := Kd.C_string (P := Tryd.prog) (c := dd) Tryd.underlying22 Tryd.underlying5 Tryd.underlying9 hCg) | (refine Exists.elim (show RowB H _ _ from hd.2.2) ?_; rintro B ⟨dd, e, hCg, hdg⟩; have hsB := Kd.C_string (P := Tryd.prog) (c := dd) Tryd.underlying22 Tryd.underlying5 Tryd.underlying9 hCg) | (refine Exists.elim (show RowB H _ _ from hd.2.2.1) ?_; rintro B ⟨dd, e, hCg, hdg⟩; have hsB := Kd.C_string (P := Tryd.prog) (c := dd) Tryd.underlying22 Tryd.underlying5 Tryd.underlying9 hCg))))
    all_goals go_simp
    all_goals (first
      | exact hF _ _ hC (Below.refl _ _) rfl
      | exact hF _ _ hC (Below.refl _ _)
      | ((with_reducible refine (KN.out _ (below_step HW0.out hC)).mono ?_); rintro e w' ⟨rfl, hb⟩; exact ⟨_, rfl, hF _ _ (below_step hC hb) hb rfl⟩)
      | ((with_reducible refine (HPF.out _ hC).mono ?_); rintro e w' ⟨rfl, hb⟩; exact ⟨_, rfl, hF _ _ (below_step hC hb) hb rfl⟩)
      | ((with_reducible refine (HPS.out _ hC).mono ?_); rintro e w' ⟨rfl, hb⟩; exact ⟨_, rfl, hF _ _ (below_step hC hb) hb rfl⟩)
      | ((with_reducible refine (HPN.out _ hC).mono ?_); rintro e w' ⟨rfl, hb⟩; exact ⟨_, rfl, hF _ _ (below_step hC hb) hb rfl⟩)
      | ((with_reducible refine (HMA.out _ hC).mono ?_); rintro e w' ⟨v, rfl, hv, hb⟩; exact ⟨_, rfl, hF _ _ (below_step hC hb) hb hv⟩)
      | ((with_reducible refine (HPT.out _ hC _ _ hCg hdg).mono ?_); rintro e w' ⟨rfl, hb⟩; exact ⟨_, rfl, hF _ _ (below_step hC hb) hb rfl⟩)
      | exact hF _ _ (below_step hC (HCV.out _).2) (HCV.out _).2 (HCV.out _).1)
  case finS =>
    intro us X hC hB
    have hL : us 43 = .bool true := (hB 43 (by decide)).1
    rw [hL]
    go_wp2
    go_ret
    exact ⟨rfl, below_step HW0.out hC⟩
set_option maxHeartbeats 8000000 in
set_option maxRecDepth 100000 in
theorem MacProves_ideal (W : World) (A0 : Option Addr) (c0 : Nat) (l0 : List Int) (hr0 : Kd.C (Kd.int .u8) W A0 l0.length l0) (hc0 : l0.length ≤ c0) (hb0 : ∀ x ∈ l0, 0 ≤ x ∧ x ≤ 255) (hl0 : l0.length ≤ 140737488351232) (A1 : Option Addr) (c1 : Nat) (l1 : List Int) (hr1 : Kd.C (Kd.int .u8) W A1 l1.length l1) (hc1 : l1.length ≤ c1) (hb1 : ∀ x ∈ l1, 0 ≤ x ∧ x ≤ 255) (hl1 : l1.length ≤ 140737488351232) (a2 : Int) (w2 : (Lit.int .u8 a2).wf = true) (hG : RootsIn W) (n0 : l0.length ≤ 100) (n1 : l1.length ≤ 100) :
    Calls Tryd.prog 14 #[.slice A0 l0.length c0, .slice A1 l1.length c1, .int .u8 a2, .bool true] W fun e w' => e = .returned (.bool true) ∧ Below W.heap.size W w' := by
  have h2 := wf_u8 w2
  have KN := Aside0.mk (fun (X : World) (hX : Below W.heap.size W X) => known3 X (hG.below rfl hX))
  have g1 : ¬ (100 : Int) < (l0.length : Int) := by omega
  have g2 : decide ((100 : Int) < (l0.length : Int)) = false := decide_eq_false g1
  have g3 : ¬ (100 : Int) < (l1.length : Int) := by omega
  have g4 : decide ((100 : Int) < (l1.length : Int)) = false := decide_eq_false g3
  obtain ⟨j, hj⟩ : ∃ j : Nat, (j : Int) = a2 % 32 := ⟨(a2 % 32).toNat, by omega⟩
  obtain ⟨q, hq⟩ : ∃ q : Nat, (q : Int) = a2 / 32 := ⟨(a2 / 32).toNat, by omega⟩
  have hj32 : j < 32 := by omega
  have hq8 : q < 8 := by omega
  have e5 : a2 % 32 = (j : Int) := by omega
  have e6 : a2 / 32 = (q : Int) := by omega
  have e7 : Int.tdiv a2 32 = (q : Int) := by rw [Int.tdiv_eq_ediv_of_nonneg h2.1]; exact e6
  have HR0 := Aside0.mk hr0
  have HR1 := Aside0.mk hr1
  have HB0 := Aside0.mk hb0
  have HB1 := Aside0.mk hb1
  have HG := Aside0.mk hG
  have HRE := Aside0.mk (real_any A0 c0 l0 W hr0 hc0 (by omega))
  have q1 := iNilM
  have q2 := iNilP
  have q3 := iMetM
  have q4 := iMetP
  clear hr0 hr1 hb0 hb1 hG w2 hj hq
  go_enter Tryd.func14, Tryd.ntmps14
  go_wp2_with (go_at_call 40; ((with_reducible refine (HRE.out).mono ?_)))
  rintro e w1 ⟨v1, rfl, hV1, hb1⟩
  obtain ⟨B1, d1, rfl, hl1b, hC1⟩ := Kd.R_reads hV1
  have HC1 := Aside0.mk hC1
  have HW1 := Aside0.mk hb1
  clear hV1 hb1 hC1 HRE
  go_wp2_with (go_at_call 30; ((with_reducible refine (ideal_any _).mono ?_)))
  rintro e w2 ⟨p, b, rfl, hpb, hp, hbb, hI, hb2⟩
  have hW2 := below_step HW1.out hb2
  obtain ⟨H, hH⟩ : ∃ H, H = idealC ([] : List (List Int)).length l1 := ⟨_, rfl⟩
  have H32 : H.length = 32 := by rw [hH]; exact idealC_len _ _
  have hHb : ∀ x ∈ H, 0 ≤ x ∧ x ≤ 255 := by rw [hH]; exact idealC_bytes _ _
  have hic : icode [l1] l1 = some H := by rw [hH]; unfold icode; rw [if_pos rfl]
  have hbr : ByteRows [l1] := by intro m hm; cases List.mem_singleton.1 hm; exact ⟨HB1.out, by omega⟩
  have hm1 : Calls Tryd.prog 85 #[.pointer (some ⟨p, 0, none⟩), .slice A1 l1.length c1] w2 (MakePost2 p b [] l1 w2) := imake_new p b [] A1 c1 l1 w2 hI hpb (by intro m hm; cases hm) (Kd.C_below HR1.out hW2) hc1 HB1.out (by omega) List.nodup_nil (by decide) (HG.out.below rfl hW2) hI.lt.2 rfl
  have HM1 := Aside0.mk hm1
  have HS32 := Aside0.mk H32
  have HHB := Aside0.mk hHb
  have HH := Aside0.mk hH
  have HIC := Aside0.mk hic
  have HBR := Aside0.mk hbr
  have HPB := Aside0.mk hpb
  have HLO := Aside0.mk (show w1.heap.size ≤ p ∧ w1.heap.size ≤ b ∧ p < w2.heap.size ∧ b < w2.heap.size from ⟨hp, hbb, hI.lt.1, hI.lt.2⟩)
  have HW12 := Aside0.mk hb2
  clear hm1 H32 hHb hH hic hbr hpb hp hbb hI hb2 hW2
  go_wp2_with (go_at_call 85; ((with_reducible refine (HM1.out).mono ?_)))
  rintro e w3 ⟨v3, rfl, hnr0, hI3, hgr⟩
  rw [← HH.out] at hnr0
  have hb13 : Below w1.heap.size w1 w3 := HW12.out.grown hgr HW12.out.size (fun i hi => by cases hi; exact HLO.out.2.1)
  have hnr : NewRow w1.heap.size H v3 w3 := by
    obtain ⟨g, d, lo, hi, cells, e0, e1, e2, e3, e4, e5⟩ := hnr0
    exact ⟨g, d, lo, hi, cells, e0, Nat.le_trans HW12.out.size e1, e2, e3, e4, e5⟩
  have hgne : ∀ g d n, v3 = .slice (some ⟨g, 0, none⟩) n d → w2.heap.size ≤ g := by
    intro g d n hv
    obtain ⟨g', d', lo, hi, cells, e0, e1, -⟩ := hnr0
    rw [hv] at e0
    injection e0 with x1 x2 x3
    injection x1 with x1
    injection x1 with x1
    omega
  have HW13 := Aside0.mk hb13
  have HI3 := Aside0.mk hI3
  have HGNE := Aside0.mk hgne
  clear hnr0 hI3 hgr hb13 hgne
  obtain ⟨g, d3, rfl⟩ : ∃ g d, v3 = .slice (some ⟨g, 0, none⟩) H.length d := by
    obtain ⟨g, d, lo, hi, cells, e0, -⟩ := hnr
    exact ⟨g, d, e0⟩
  obtain ⟨hg1, lo, hi, cells, hgc, hfr, hd3, hC3⟩ := newrow_cells hnr rfl
  rw [HS32.out] at hC3 hd3 ⊢
  have hst := Kd.C_string (P := Tryd.prog) (c := d3) Tryd.underlying22 Tryd.underlying5 Tryd.underlying9 hC3
  have hg2 := HGNE.out g d3 H.length rfl
  have hI3 := HI3.out
  have hpv3 := fun X (hX : IdealS p b [l1] X) (hW : Below W.heap.size W X) (B : Option Addr) (d n : Nat) (l : List Int) (hn : n = l.length) (hC : Kd.C (Kd.int .u8) X B l.length l) (hd : l.length ≤ d) (hb : ∀ x ∈ l, 0 ≤ x ∧ x ≤ 255) => (show Calls Tryd.prog 86 #[.pointer (some ⟨p, 0, none⟩), .slice A1 l1.length c1, .slice B n d] X (BoolPost (decide (H = l)) X) from by
    have := iprove_any p b [l1] A1 c1 l1 X hX HPB.out HBR.out (Kd.C_below HR1.out hW) hc1 HB1.out (by omega) B d l hC hd hb
    rw [HIC.out] at this
    rw [hn]
    have e : decide (some H = some l) = decide (H = l) := by simp
    rw [← e]
    exact this)
  have HPV3 := Aside0.mk hpv3
  have hone := hpv3 w3 hI3 (below_step HW1.out HW13.out) (some ⟨g, 0, none⟩) d3 32 H HS32.out.symm (by rw [HS32.out]; exact hC3) (by rw [HS32.out]; exact hd3) HHB.out
  clear hpv3 hI3
  rw [decide_eq_true rfl] at hone
  have HONE := Aside0.mk hone
  have HNR := Aside0.mk hnr
  have HC3 := Aside0.mk hC3
  have HG1 := Aside0.mk hg1
  clear hone hnr hC3 hgc hfr hg1
  go_wp2_with (go_at_call 86; ((with_reducible refine (HONE.out).mono ?_)))
  rintro e w4 ⟨rfl, hb4⟩
  have hlt : g < w3.heap.size := by
    obtain ⟨-, lo, hi, cells, hgc, -⟩ := newrow_cells HNR.out rfl
    exact (Array.getElem?_eq_some_iff.1 hgc).1
  have hn4 : NewRow w1.heap.size H (.slice (some ⟨g, 0, none⟩) H.length d3) w4 := by
    obtain ⟨h1, lo, hi, cells, hgc, hfr, hd, hC⟩ := newrow_cells HNR.out rfl
    exact ⟨g, d3, lo, hi, cells, rfl, h1, (hb4.block g hlt).trans hgc, hfr, hd, Kd.C_below hC hb4⟩
  obtain ⟨hcx, hcf, hC5⟩ := newrow_spoil hn4 j (by rw [HS32.out]; exact hj32) (bits .xor .u8 (H.getD j 0) (2 ^ q % 256))
  obtain ⟨hne, hGb⟩ := bit_ne H HHB.out j q (by rw [HS32.out]; exact hj32) hq8
  obtain ⟨V, hV⟩ : ∃ V, V = bits .xor .u8 (H.getD j 0) (2 ^ q % 256) := ⟨_, rfl⟩
  rw [← hV] at hC5 hne hGb
  obtain ⟨y, hy⟩ : ∃ y, y = H.getD j 0 := ⟨_, rfl⟩
  rw [← hy] at hV hcx
  obtain ⟨G, hG5⟩ : ∃ G, G = H.set j V := ⟨_, rfl⟩
  have hGl : G.length = 32 := by rw [hG5, List.length_set]; exact HS32.out
  rw [← hG5] at hC5 hne hGb
  obtain ⟨X0, hX0⟩ : ∃ X0, X0 = w4.setCell ⟨g, j, none⟩ (.int .u8 V) := ⟨_, rfl⟩
  rw [← hX0, HS32.out] at hC5
  have hb14 := below_step HW13.out hb4
  have hb10 : Below w1.heap.size w1 X0 := by rw [hX0]; exact hb14.setCell HG1.out _
  have hW0 := below_step HW1.out hb10
  have hix : ∀ X, Below X0.heap.size X0 X → IdealS p b [l1] X := fun X hX => by
    have h4 := HI3.out.below hb4
    have h5 : IdealS p b [l1] X0 := by
      rw [hX0]
      exact h4.kept (Below.heap_setCell w4 _ _ p (by show p ≠ g; have := HLO.out; omega)) (Below.heap_setCell w4 _ _ b (by show b ≠ g; have := HLO.out; omega))
    exact h5.below hX
  have HIX := Aside0.mk hix
  clear hix
  have HX0 := Aside0.mk hX0
  have HV := Aside0.mk hV
  have HW0 := Aside0.mk hW0
  have hcv := fun X : World => (conv_row H HHB.out (by rw [HS32.out]; decide) X).1
  have HCV := Aside0.mk (fun X : World => (conv_row H HHB.out (by rw [HS32.out]; decide) X).2)
  have HPT : Aside0 (∀ X, Below X0.heap.size X0 X → ∀ B d, Kd.C (Kd.int .u8) X B H.length H → H.length ≤ d → Calls Tryd.prog 86 #[.pointer (some ⟨p, 0, none⟩), .slice A1 l1.length c1, .slice B H.length d] X (BoolPost true X)) := ⟨fun X hX B d hC hd => by
    have := HPV3.out X (HIX.out X hX) (below_step HW0.out hX) B d H.length H rfl hC hd HHB.out
    rwa [decide_eq_true rfl] at this⟩
  have HPF : Aside0 (∀ X, Below X0.heap.size X0 X → Calls Tryd.prog 86 #[.pointer (some ⟨p, 0, none⟩), .slice A1 l1.length c1, .slice (some ⟨g, 0, none⟩) 32 d3] X (BoolPost false X)) := ⟨fun X hX => by
    have := HPV3.out X (HIX.out X hX) (below_step HW0.out hX) (some ⟨g, 0, none⟩) d3 32 G hGl.symm (by rw [hGl]; exact Kd.C_below hC5 hX) (by rw [hGl]; exact hd3) hGb
    rwa [decide_eq_false hne] at this⟩
  have HPS : Aside0 (∀ X, Below X0.heap.size X0 X → Calls Tryd.prog 86 #[.pointer (some ⟨p, 0, none⟩), .slice A1 l1.length c1, .slice (some ⟨g, 0, none⟩) 31 d3] X (BoolPost false X)) := ⟨fun X hX => by
    have ht : (G.take 31).length = 31 := by rw [List.length_take, hGl]; decide
    have hz : Kd.C (Kd.int .u8) X (some ⟨g, 0, none⟩) G.length G := by rw [hGl]; exact Kd.C_below hC5 hX
    have hz2 := c_take hz 31 (by rw [hGl]; decide)
    have := HPV3.out X (HIX.out X hX) (below_step HW0.out hX) (some ⟨g, 0, none⟩) d3 31 (G.take 31) ht.symm (by rw [ht]; exact hz2) (by rw [ht]; omega) (fun x hx => hGb x (List.mem_of_mem_take hx))
    rwa [decide_eq_false (fun e => by have := congrArg List.length e; rw [HS32.out, ht] at this; cases this)] at this⟩
  have HPN : Aside0 (∀ X, Below X0.heap.size X0 X → Calls Tryd.prog 86 #[.pointer (some ⟨p, 0, none⟩), .slice A1 l1.length c1, .slice none 0 0] X (BoolPost false X)) := ⟨fun X hX => by
    have := HPV3.out X (HIX.out X hX) (below_step HW0.out hX) none 0 0 [] rfl (Kd.C_empty _ _) (Nat.le_refl _) (by simp)
    rwa [decide_eq_false (fun e => by have := congrArg List.length e; rw [HS32.out] at this; cases this)] at this⟩
  have HMA : Aside0 (∀ X, Below X0.heap.size X0 X → Calls Tryd.prog 85 #[.pointer (some ⟨p, 0, none⟩), .slice A1 l1.length c1] X (RowBPost H X)) := ⟨fun X hX => rowb_new (imake_old p b [l1] A1 c1 l1 X (HIX.out X hX) HPB.out HBR.out (Kd.C_below HR1.out (below_step HW0.out hX)) hc1 HB1.out (by omega) H HIC.out)⟩
  clear hb4 hlt hn4 hC5 hne hGb hGl hb14 hb10 hX0 hV hy hW0 hG5 hg2
  obtain ⟨nA, hnA⟩ : ∃ n, n = l1.length := ⟨_, rfl⟩
  obtain ⟨nK, hnK⟩ : ∃ n, n = l0.length := ⟨_, rfl⟩
  rw [← hnA] at HPT HPF HPS HPN HMA
  rw [← hnA, ← hnK]
  clear hnA hnK
  have hd31 : (31 : Int) ≤ (d3 : Int) := by omega
  go_wp2
  rw [← HV.out, ← HX0.out]
  refine wp_region_inv_ex (fun X => Below X0.heap.size X0 X) (fun X Y => Below X.heap.size X Y) (BOf
      [some (.bool true), some (.bool true), some (.bool true), some (.bool true), some (.bool true), some (.iface 74 (.pointer (some ⟨p, 0, none⟩))), some (.slice A1 nA c1), some (.slice (some ⟨g, 0, none⟩) 32 d3), some (.bool false), some (.bool true), some (.bool true), some (.bool true), some (.iface 74 (.pointer (some ⟨p, 0, none⟩))), some (.slice A1 nA c1), none, some (.string (strOfNums H)), some (.string (strOfNums H)), some (.bool true), some (.bool true), some (.bool true), some (.iface 74 (.pointer (some ⟨p, 0, none⟩))), some (.slice A1 nA c1), some (.string (strOfNums H)), none, some (.bool true), some (.bool true), some (.bool true), some (.iface 74 (.pointer (some ⟨p, 0, none⟩))), some (.slice A1 nA c1), some (.slice (some ⟨g, 0, none⟩) 32 d3), some (.slice (some ⟨g, 0, none⟩) 31 d3), some (.func (.method "Prove") #[.iface 74 (.pointer (some ⟨p, 0, none⟩))] #[]), none, some (.iface 74 (.pointer (some ⟨p, 0, none⟩))), some (.bool false), some (.bool true), some (.bool true), some (.bool true), some (.iface 74 (.pointer (some ⟨p, 0, none⟩))), some (.slice A1 nA c1), some (.bool false), some (.bool true), some (.bool true), some (.bool true)]
      [(14, RowB H), (23, RowB H)])
    (by kernel_rfl) (by kernel_rfl) (by kernel_rfl) (fun X => Below.refl _ X) (BOf_below ?hspS) (Below.refl _ _).drew ?allS
  case hspS => simp [RowB.sp]
  apply Exists.intro
  refine ⟨?hAS, ?stepsS, ?finS⟩
  case hAS =>
    simp only [lay, Act.put, List.setIfInBounds_toArray, List.set_cons_zero, List.set_cons_succ, Nat.zero_add, Nat.reduceAdd]
    exact rfl
  case stepsS =>
    repeat' (first | exact Steps.nil | refine Steps.cons ?_ ?_)
    all_goals (intro us X F hC hd hF; simp only [Deps, BOf, pureAt, spAt] at hd hF)
    all_goals (try simp only [Nat.reduceAdd, Nat.reduceEqDiff, false_implies, true_implies, and_true, true_and] at hd hF)
    all_goals ((try (first | (refine Exists.elim (show RowB H _ _ from hd) ?_; rintro B ⟨dd, e, hCg, hdg⟩; have hsB := Kd.C_string (P := Tryd.prog) (c := dd) Tryd.underlying22 Tryd.underlying5 Tryd.underlying9 hCg) | (refine Exists.elim (show RowB H _ _ from hd.1) ?_; rintro B ⟨dd, e, hCg, hdg⟩; have hsB := Kd.C_string (P := Tryd.prog) (c := dd) Tryd.underlying22 Tryd.underlying5 Tryd.underlying9 hCg) | (refine Exists.elim (show RowB H _ _ from hd.2) ?_; rintro B ⟨dd, e, hCg, hdg⟩; have hsB := Kd.C_string (P := Tryd.prog) (c := dd) Tryd.underlying22 Tryd.underlying5 Tryd.underlying9 hCg) | (refine Exists.elim (show RowB H _ _ from hd.2.1) ?_; rintro B ⟨dd, e, hCg, hdg⟩; have hsB := Kd.C_string (P := Tryd.prog) (c := dd) Tryd.underlying22 Tryd.underlying5 Tryd.underlying9 hCg) | (refine Exists.elim (show RowB H _ _ from hd.2.2) ?_; rintro B ⟨dd, e, hCg, hdg⟩; have hsB := Kd.C_string (P := Tryd.prog) (c := dd) Tryd.underlying22 Tryd.underlying5 Tryd.underlying9 hCg) | (refine Exists.elim (show RowB H _ _ from hd.2.2.1) ?_; rintro B ⟨dd, e, hCg, hdg⟩; have hsB := Kd.C_string (P := Tryd.prog) (c := dd) Tryd.underlying22 Tryd.underlying5 Tryd.underlying9 hCg))))
    all_goals go_simp
    all_goals (first
      | exact hF _ _ hC (Below.refl _ _) rfl
      | exact hF _ _ hC (Below.refl _ _)
      | ((with_reducible refine (KN.out _ (below_step HW0.out hC)).mono ?_); rintro e w' ⟨rfl, hb⟩; exact ⟨_, rfl, hF _ _ (below_step hC hb) hb rfl⟩)
      | ((with_reducible refine (HPF.out _ hC).mono ?_); rintro e w' ⟨rfl, hb⟩; exact ⟨_, rfl, hF _ _ (below_step hC hb) hb rfl⟩)
      | ((with_reducible refine (HPS.out _ hC).mono ?_); rintro e w' ⟨rfl, hb⟩; exact ⟨_, rfl, hF _ _ (below_step hC hb) hb rfl⟩)
      | ((with_reducible refine (HPN.out _ hC).mono ?_); rintro e w' ⟨rfl, hb⟩; exact ⟨_, rfl, hF _ _ (below_step hC hb) hb rfl⟩)
      | ((with_reducible refine (HMA.out _ hC).mono ?_); rintro e w' ⟨v, rfl, hv, hb⟩; exact ⟨_, rfl, hF _ _ (below_step hC hb) hb hv⟩)
      | ((with_reducible refine (HPT.out _ hC _ _ hCg hdg).mono ?_); rintro e w' ⟨rfl, hb⟩; exact ⟨_, rfl, hF _ _ (below_step hC hb) hb rfl⟩)
      | exact hF _ _ (below_step hC (HCV.out _).2) (HCV.out _).2 (HCV.out _).1)
  case finS =>
    intro us X hC hB
    have hL : us 43 = .bool true := (hB 43 (by decide)).1
    rw [hL]
    go_wp2
    go_ret
    exact ⟨rfl, below_step HW0.out hC⟩
set_option maxHeartbeats 8000000 in
set_option maxRecDepth 100000 in
theorem MacProves_at (W : World) (A0 : Option Addr) (c0 : Nat) (l0 : List Int) (hr0 : Kd.C (Kd.int .u8) W A0 l0.length l0) (hc0 : l0.length ≤ c0) (hb0 : ∀ x ∈ l0, 0 ≤ x ∧ x ≤ 255) (hl0 : l0.length ≤ 140737488351232) (A1 : Option Addr) (c1 : Nat) (l1 : List Int) (hr1 : Kd.C (Kd.int .u8) W A1 l1.length l1) (hc1 : l1.length ≤ c1) (hb1 : ∀ x ∈ l1, 0 ≤ x ∧ x ≤ 255) (hl1 : l1.length ≤ 140737488351232) (a2 : Int) (w2 : (Lit.int .u8 a2).wf = true) (b3 : Bool) (hG : RootsIn W) :
    Calls Tryd.prog 14 #[.slice A0 l0.length c0, .slice A1 l1.length c1, .int .u8 a2, .bool b3] W fun e w' => e = .returned (.bool true) ∧ Below W.heap.size W w' := by
  have KN := Aside0.mk (fun (X : World) (hX : Below W.heap.size W X) => known3 X (hG.below rfl hX))
  have out : (100 < l0.length ∨ 100 < l1.length) → Calls Tryd.prog 14 #[.slice A0 l0.length c0, .slice A1 l1.length c1, .int .u8 a2, .bool b3] W fun e w' => e = .returned (.bool true) ∧ Below W.heap.size W w' := by
    intro hor
    clear hr0 hr1 hb0 hb1 hG w2
    rcases hor with ho | ho
    · have g1 : (100 : Int) < (l0.length : Int) := by omega
      have g2 : decide ((100 : Int) < (l0.length : Int)) = true := decide_eq_true g1
      go_enter Tryd.func14, Tryd.ntmps14
      go_wp2_with (go_at_call 29; ((with_reducible refine (KN.out _ (Below.refl _ _)).mono ?_); rintro e w1 ⟨rfl, hb1⟩); have HB1 := Aside0.mk hb1; clear hb1)
      go_ret
      exact ⟨rfl, HB1.out⟩
    · have g3 : (100 : Int) < (l1.length : Int) := by omega
      have g4 : decide ((100 : Int) < (l1.length : Int)) = true := decide_eq_true g3
      by_cases g : 100 < l0.length
      · have g1 : (100 : Int) < (l0.length : Int) := by omega
        have g2 : decide ((100 : Int) < (l0.length : Int)) = true := decide_eq_true g1
        go_enter Tryd.func14, Tryd.ntmps14
        go_wp2_with (go_at_call 29; ((with_reducible refine (KN.out _ (Below.refl _ _)).mono ?_); rintro e w1 ⟨rfl, hb1⟩); have HB1 := Aside0.mk hb1; clear hb1)
        go_ret
        exact ⟨rfl, HB1.out⟩
      · have g1 : ¬ (100 : Int) < (l0.length : Int) := by omega
        have g2 : decide ((100 : Int) < (l0.length : Int)) = false := decide_eq_false g1
        go_enter Tryd.func14, Tryd.ntmps14
        go_wp2_with (go_at_call 29; ((with_reducible refine (KN.out _ (Below.refl _ _)).mono ?_); rintro e w1 ⟨rfl, hb1⟩); have HB1 := Aside0.mk hb1; clear hb1)
        go_ret
        exact ⟨rfl, HB1.out⟩
  by_cases hor : 100 < l0.length ∨ 100 < l1.length
  · exact out hor
  clear out
  have g1 : ¬ (100 : Int) < (l0.length : Int) := by omega
  have g2 : decide ((100 : Int) < (l0.length : Int)) = false := decide_eq_false g1
  have g3 : ¬ (100 : Int) < (l1.length : Int) := by omega
  have g4 : decide ((100 : Int) < (l1.length : Int)) = false := decide_eq_false g3
  have n0 : l0.length ≤ 100 := by omega
  have n1 : l1.length ≤ 100 := by omega
  clear hor
  cases b3 with
  | false => exact MacProves_real W A0 c0 l0 hr0 hc0 hb0 hl0 A1 c1 l1 hr1 hc1 hb1 hl1 a2 w2 hG n0 n1
  | true => exact MacProves_ideal W A0 c0 l0 hr0 hc0 hb0 hl0 A1 c1 l1 hr1 hc1 hb1 hl1 a2 w2 hG n0 n1
end Go.Proofs.YtfmdpkilgnccfaaDoor.Pure
