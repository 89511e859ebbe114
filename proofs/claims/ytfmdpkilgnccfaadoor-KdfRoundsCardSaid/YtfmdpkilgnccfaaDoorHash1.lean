/- kdf.rounds$1: the iterator. -/
import Derived.Test.YtfmdpkilgnccfaaDoorHash0
import Derived.WalkMore
namespace Go.Proofs.YtfmdpkilgnccfaaDoor.E
open Go.RowKit Go.Shelf Go.Proofs.YtfmdpkilgnccfaaDoorW.PrintWords Go.Proofs.YtfmdpkilgnccfaaDoorW.PrintLast Go.Proofs.YtfmdpkilgnccfaaDoorW.PrintMore Go.Proofs.YtfmdpkilgnccfaaDoor.Pr
attribute [local go_sem] Oper.semAt_some opVal opUpon
set_option linter.unusedVariables false
set_option linter.unusedSimpArgs false
def encU (g : Nat) (x : List Int) (X : World) (vs : Array Value) : Prop := ∃ A c, vs = #[.slice A 32 c] ∧ x.length = 32 ∧ Kd.C (Kd.int .u8) X A 32 x ∧ ∀ ad, A = some ad → ad.block ≠ g
theorem C_keep {g : Nat} {X Y : World} {A : Option Addr} {n : Nat} {xs : List Int} (h : Kd.C (Kd.int .u8) X A n xs) (hk : KpC g X Y) (hA : 0 < n → ∀ ad, A = some ad → ad.block ≠ g) : Kd.C (Kd.int .u8) Y A n xs := by
  refine ⟨h.1, h.2.1, fun hn => ?_⟩
  have hA := hA (by omega)
  obtain ⟨ad, e, hc⟩ := h.2.2 hn
  refine ⟨ad, e, fun j p hj => ?_⟩
  obtain ⟨c, h1, h2, h3⟩ := hc j p hj
  refine ⟨c, h1, h2, fun i u hu => ?_⟩
  have h4 := h3 i u hu
  have hb : (ad.add (j * (Kd.int IntKind.u8).sz + i)).block = ad.block := by unfold Addr.add; split <;> rfl
  rw [← h4]
  unfold World.cell? at h4 ⊢
  cases ho : X.heap[(ad.add (j * (Kd.int IntKind.u8).sz + i)).block]? with
  | none => rw [ho] at h4; cases h4
  | some o =>
    have hcell : o.isCells = true := by
      rw [ho] at h4
      cases o <;> simp_all [Obj.isCells]
    rw [hk.2 _ o ho hcell (by rw [hb]; exact hA ad e)]
theorem KpC.of_below {g : Nat} {X Y : World} (h : Below X.heap.size X Y) : KpC g X Y := ⟨h.size, fun k o ho _ _ => (h.block k (Array.getElem?_eq_some_iff.1 ho).1).trans ho⟩
theorem KpC.trans {g : Nat} {X Y Z : World} (h : KpC g X Y) (k : KpC g Y Z) : KpC g X Z := ⟨Nat.le_trans h.1 k.1, fun j o ho hc hne => k.2 j o (h.2 j o ho hc hne) hc hne⟩
theorem KpC.refl (g : Nat) (X : World) : KpC g X X := ⟨Nat.le_refl _, fun _ _ h _ _ => h⟩
theorem RootsIn.keep {g : Nat} {X Y : World} (h : RootsIn X) (hk : KpC g X Y) (hg : 0 ≠ g) : RootsIn Y := by
  refine ⟨Nat.lt_of_lt_of_le h.1 hk.1, fun i hi => ?_⟩
  have h4 := h.2 i hi
  rw [← h4]
  unfold World.cell? at h4 ⊢
  cases ho : X.heap[0]? with
  | none => rw [ho] at h4; cases h4
  | some o =>
    have hcell : o.isCells = true := by
      rw [ho] at h4
      cases o <;> simp_all [Obj.isCells]
    rw [hk.2 _ o ho hcell hg]
theorem R_block {w : World} {base : Nat} {ok : Nat → Prop} {A : Option Addr} {n c : Nat} {l : List Int} (h : Kd.R (Kd.int .u8) 5 w base ok (.slice A n c) l) : ∀ ad, A = some ad → ok ad.block := by
  intro ad hA
  subst hA
  exact h.1 ad.block rfl
theorem R_ne {w : World} {base g : Nat} {v : Value} {l : List Int} (h : Kd.R (Kd.int .u8) 5 w base (fun _ => True) v l) (hg : g < base) : Kd.R (Kd.int .u8) 5 w base (fun k => k ≠ g) v l :=
  Kd.R_mono (Kd.R_bound h) (fun k hk => by have := hk.2.1; omega)
theorem cat2 (X : World) (A0 : Option Addr) (n0 c0 : Nat) (l0 : List Int) (A1 : Option Addr) (n1 c1 : Nat) (l1 : List Int) (v : Value) (hv : RowVal #[.slice A0 n0 c0, .slice A1 n1 c1] v X) (h0 : Kd.C (Kd.int .u8) X A0 n0 l0) (g0 : n0 ≤ c0) (h1 : Kd.C (Kd.int .u8) X A1 n1 l1) (g1 : n1 ≤ c1) (hlen : (l0 ++ l1).length ≤ 1000000) :
    Calls Tryd.prog 45 #[v] X fun e w' => ∃ v, e = .returned v ∧ Kd.R (Kd.int .u8) 5 w' X.heap.size (fun _ => True) v (l0 ++ l1) ∧ Below X.heap.size X w' := by
  have e0 : l0.length = n0 := h0.1
  have e1 : l1.length = n1 := h1.1
  subst e0; subst e1
  obtain ⟨g, rfl, hg⟩ := hv
  have hrows := rows_blk X g [(A0, c0, l0), (A1, c1, l1)] 22 (0, 0) hg (by
    intro v hv
    simp only [List.mem_cons, List.mem_nil_iff, or_false] at hv
    rcases hv with rfl | rfl
    · exact ⟨h0, g0⟩
    · exact ⟨h1, g1⟩) (by simp)
  have hrows2 : Kd.C (Kd.slice 5 (Kd.int .u8)) X (some ⟨g, 0, none⟩) [l0, l1].length [l0, l1] := hrows
  have hf : slices_Concat_byte_byte.f [l0, l1] = some (l0 ++ l1) := by
    have e : [l0, l1].flatten = l0 ++ l1 := by simp
    unfold slices_Concat_byte_byte.f
    rw [e, if_pos (by omega)]
  exact slices_Concat_byte_byte.calls (some ⟨g, 0, none⟩) 2 [l0, l1] (l0 ++ l1) X hrows2 (Nat.le_refl _) hf
theorem uL_bytes {pass salt : List Int} (h : ∀ x ∈ salt, 0 ≤ x ∧ x ≤ 255) : ∀ i, ∀ x ∈ uL pass salt i, 0 ≤ x ∧ x ≤ 255
  | 0 => bytes_app h (by intro x hx; simp at hx; omega)
  | i + 1 => codeL_bytes _ _
theorem uL_len {pass salt : List Int} (h : salt.length ≤ 800000) : ∀ i, (uL pass salt i).length ≤ 800004
  | 0 => by simp [uL]; omega
  | i + 1 => by rw [uL, codeL_len]; decide
def CatVal (W : World) (As : Option Addr) (ns cs : Nat) (v : Value) (X : World) : Prop := ∃ B d, RowVal #[.slice As ns cs, .slice B 4 d] v X ∧ Kd.C (Kd.int .u8) X B 4 [0, 0, 0, 1] ∧ 4 ≤ d
theorem CatVal.sp (W : World) (As : Option Addr) (ns cs : Nat) : SpBelow (CatVal W As ns cs) := fun v w w' h hb =>
  let ⟨B, d, h1, h2, h3⟩ := h
  ⟨B, d, h1.below hb, Kd.C_below h2 hb, h3⟩
def RneVal (n0 g : Nat) (l : List Int) (v : Value) (X : World) : Prop := Kd.R (Kd.int .u8) 5 X n0 (fun k => k ≠ g) v l
theorem RneVal.sp (n0 g : Nat) (l : List Int) : SpBelow (RneVal n0 g l) := fun v w w' h hb => Kd.R_below h hb
set_option maxRecDepth 100000 in
set_option maxHeartbeats 8000000 in
theorem rounds_iter (l g sb nb pb : Nat) (As : Option Addr) (cs : Nat) (salt : List Int) (Ap : Option Addr) (cp : Nat) (pass : List Int) (n : Nat) (hn : n ≤ 1000) (hsl : salt.length ≤ 800000) (hpl : pass.length ≤ 1000000) (hcs : salt.length ≤ cs) (hcp : pass.length ≤ cp)
    (hsb : ∀ x ∈ salt, 0 ≤ x ∧ x ≤ 255) (hpb : ∀ x ∈ pass, 0 ≤ x ∧ x ≤ 255) (hne1 : sb ≠ g) (hne2 : nb ≠ g) (hne3 : pb ≠ g) (hgr : 0 ≠ g) (hAs : 0 < salt.length → ∀ ad, As = some ad → ad.block ≠ g) (hAp : 0 < pass.length → ∀ ad, Ap = some ad → ad.block ≠ g)
    (K : List (List Int) → World → Prop) (hKS : ∀ s X Y, K s X → StC X Y → K s Y)
    (hY : ∀ s x X vs, s ++ [x] <+: seqU pass salt n → K s X → encU g x X vs → YieldAt Fence.wide 1 Tryd.prog l vs X fun e Y => e = .returned (.bool true) ∧ K (s ++ [x]) Y ∧ KpC g X Y)
    (W : World) (h0 : K [] W) (hb1 : W.heap[sb]? = some (.cells #[.slice As salt.length cs] 22 (0, 0))) (hn1 : W.heap[nb]? = some (.cells #[.int .i64 (n : Int)] 3 (0, 0))) (hp1 : W.heap[pb]? = some (.cells #[.slice Ap pass.length cp] 22 (0, 0)))
    (hS : Kd.C (Kd.int .u8) W As salt.length salt) (hP : Kd.C (Kd.int .u8) W Ap pass.length pass) (hG : RootsIn W) (hgW : g < W.heap.size) :
    CallsIn Fence.wide 2 Tryd.prog 65 #[.func (.yield l) #[] #[], .pointer (some ⟨sb, 0, none⟩), .pointer (some ⟨nb, 0, none⟩), .pointer (some ⟨pb, 0, none⟩)] W fun e W' => (∃ v, e = .returned v) ∧ ∃ s, s = seqU pass salt n ∧ K s W' := by
  refine callsIn_of_wp Tryd.func65 rfl trivial ?_ rfl
  simp only [Tryd.ntmps65, List.size_toArray, List.length_cons, List.length_nil, Nat.reduceAdd, Nat.reduceSub, Array.replicate_succ, Array.replicate_zero, List.push_toArray, List.append_toArray, List.nil_append, List.cons_append]
  have HSB := Aside0.mk hb1
  have HNB := Aside0.mk hn1
  have HPB := Aside0.mk hp1
  have HS := Aside0.mk hS
  have HP := Aside0.mk hP
  have HG := Aside0.mk hG
  have HK0 := Aside0.mk h0
  have HSB' := Aside0.mk hsb
  have HPB' := Aside0.mk hpb
  have hput := fun X : World => num_Put.calls 9 (1 : Int) 4 [0, 0, 0, 1] X (by have := put4 1; simpa [beN] using this)
  have HPUT := Aside0.mk hput
  obtain ⟨ns, hns⟩ : ∃ ns, ns = salt.length := ⟨_, rfl⟩
  obtain ⟨np, hnp⟩ : ∃ np, np = pass.length := ⟨_, rfl⟩
  have HNS := Aside0.mk hns
  have HLEN := Aside0.mk (show (salt ++ [0, 0, 0, 1]).length ≤ 1000000 by rw [List.length_append]; simp; omega)
  have HNP := Aside0.mk hnp
  rw [← hns] at HSB HS hcs hsl
  rw [← hnp] at HPB HP hcp hpl hAp
  clear hb1 hn1 hp1 hS hP hG h0 hsb hpb hput hns hnp
  have cb : W.cell? ⟨sb, 0, none⟩ = some (.slice As ns cs) := blk_cell HSB.out 0
  refine wpIn_wide.2 ?_
  go_wp2
  refine wp_region_inv_ex (fun X => Below W.heap.size W X) (fun X Y => Below X.heap.size X Y) (BOf
      [some (.slice As ns cs), none, none, none, none]
      [(1, RowB [0, 0, 0, 1]), (2, CatVal W As ns cs), (3, RneVal W.heap.size g (uL pass salt 0)), (4, RneVal W.heap.size g (uL pass salt 0))])
    (by kernel_rfl) (by kernel_rfl) (by kernel_rfl) (fun X => Below.refl _ X) (BOf_below ?hspA) (Below.refl _ _).drew ?allA
  case hspA => simp [RowB.sp, CatVal.sp, RneVal.sp]
  apply Exists.intro
  refine ⟨?hAA, ?stepsA, ?finA⟩
  case hAA =>
    simp only [lay, Act.put, List.setIfInBounds_toArray, List.set_cons_zero, List.set_cons_succ, Nat.zero_add, Nat.reduceAdd]
    exact rfl
  case stepsA =>
    repeat' (first | exact Steps.nil | refine Steps.cons ?_ ?_)
    all_goals (intro us X F hC hd hF; simp only [Deps, BOf, pureAt, spAt] at hd hF)
    all_goals (try simp only [Nat.reduceAdd, Nat.reduceEqDiff, false_implies, true_implies, and_true, true_and] at hd hF)
    all_goals (have cbx := pw_cell_below hC cb)
    all_goals (try (first | (refine Exists.elim (show CatVal W As ns cs _ _ from hd.1) ?_; rintro B ⟨d, hcv, hCg, hdg⟩) | (refine Exists.elim (show RowB [0, 0, 0, 1] _ _ from hd.2) ?_; rintro B ⟨d, e, hCg, hdg⟩; have e : us 1 = .slice B 4 d := e)))
    all_goals go_simp
    all_goals (first
      | exact hF _ _ hC (Below.refl _ _) rfl
      | ((with_reducible refine (HPUT.out _).mono ?_); rintro e w' ⟨v, rfl, hv, hb⟩; exact ⟨_, rfl, hF _ _ (below_step hC hb) hb (RowB.of_R hv)⟩)
      | exact hF _ _ (hC.alloc hC.size _) ((Below.refl _ _).alloc (Nat.le_refl _) _) ⟨B, d, RowVal.new _ _, Kd.C_alloc hCg _, hdg⟩
      | (refine (cat2 X As ns cs salt B 4 d [0, 0, 0, 1] _ hcv (Kd.C_below HS.out hC) hcs hCg hdg HLEN.out).mono ?_; rintro e w' ⟨v, rfl, hv, hb⟩; exact ⟨_, rfl, hF _ _ (below_step hC hb) hb (Kd.R_lower (R_ne hv (Nat.lt_of_lt_of_le hgW hC.size)) hC.size)⟩)
      | exact hF _ _ hC (Below.refl _ _) hd.1)
  case finA =>
    intro us X hC hB
    have h4 : RneVal W.heap.size g (uL pass salt 0) (us 4) X := (hB 4 (by decide)).2.2.2.2.1 rfl
    obtain ⟨v0, hv0⟩ : ∃ v, v = us 4 := ⟨_, rfl⟩
    rw [← hv0] at h4 ⊢
    clear hB hv0
    have hK := hKS [] W X HK0.out hC
    have cn : X.cell? ⟨nb, 0, none⟩ = some (.int .i64 (n : Int)) := pw_cell_below hC (blk_cell HNB.out 0)
    have HK := Aside0.mk hK
    have HR := Aside0.mk h4
    have HKP := Aside0.mk (KpC.of_below (g := g) hC)
    clear h4 hK hC
    go_wp2
    refine (wpIn_wide (n := 2)).1 ?_
    gi_loopw [5, 11] (fun v5 v11 wr => ∃ i : Nat, i ≤ n ∧ v11 = .int .i64 (i : Int) ∧ Aside0 (K (seqU pass salt i) wr ∧ KpC g W wr ∧ RneVal W.heap.size g (uL pass salt i) v5 wr)) (fun _ v11 _ => n - (intOf v11).toNat)
    case atStart => exact ⟨0, Nat.zero_le _, rfl, ⟨HK.out, HKP.out, HR.out⟩⟩
    case round =>
      obtain ⟨i, hi, rfl, ⟨⟨hK, hkp, hR⟩⟩⟩ := hrel
      by_cases hin : i < n
      · obtain ⟨A5, c5, rfl, hl5, hC5⟩ := Kd.R_reads hR
        have cp5 : wr.cell? ⟨pb, 0, none⟩ = some (.slice Ap np cp) := blk_cell (hkp.2 pb _ HPB.out rfl hne3) 0
        have hul := uL_len (pass := pass) (salt := salt) (by rw [← HNS.out]; exact hsl) i
        have hrd : Calls Tryd.prog 36 #[.slice Ap np cp, .slice A5 (uL pass salt i).length c5] wr fun e w' => ∃ v, e = .returned v ∧ Kd.R (Kd.int .u8) 5 w' wr.heap.size (fun _ => True) v (codeL pass (uL pass salt i)) ∧ Below wr.heap.size wr w' := by
          have h := round_any Ap cp pass A5 c5 (uL pass salt i) wr (by rw [← HNP.out]; exact C_keep HP.out hkp hAp) (by rw [← HNP.out]; exact hcp) HPB'.out (by rw [← HNP.out]; exact hpl) hC5 hl5 (uL_bytes HSB'.out i) (by omega) (HG.out.keep hkp hgr)
          rw [← HNP.out] at h
          exact h
        obtain ⟨u, hu⟩ : ∃ u, u = uL pass salt i := ⟨_, rfl⟩
        have hu1 : uL pass salt (i + 1) = codeL pass u := by rw [hu]; rfl
        rw [← hu] at hrd hl5 hul ⊢
        have hpre := seqU_pre pass salt hin
        have hsucc := seqU_succ pass salt i
        rw [hu1] at hpre hsucc
        have HRD := Aside0.mk hrd
        have HKW := Aside0.mk hK
        have HKP2 := Aside0.mk hkp
        have HPRE := Aside0.mk hpre
        have HSUCC := Aside0.mk hsucc
        have HU1 := Aside0.mk hu1
        have kk0 : (i : Int) < (n : Int) := by omega
        clear hK hkp hR hC5 hrd hu hu1 hpre hsucc
        gi_wp2
        refine ⟨trivial, (callsIn_wide.2 HRD.out).mono ?_⟩
        rintro e w5 ⟨v5, rfl, hR5, hb5⟩
        have hR6 := R_ne hR5 (Nat.lt_of_lt_of_le hgW HKP2.out.1)
        have hRL := Kd.R_lower hR6 HKP2.out.1
        have hbl : ∀ A m c, v5 = .slice A m c → ∀ ad, A = some ad → ad.block ≠ g := fun A m c e => R_block (by rw [e] at hR6; exact hR6)
        obtain ⟨A6, c6, rfl, hl6, hC6⟩ := Kd.R_reads hR6
        have h32 := codeL_len pass u
        rw [h32] at hl6 hC6 ⊢
        have henc : encU g (codeL pass u) w5 #[.slice A6 32 c6] := ⟨A6, c6, rfl, h32, hC6, hbl A6 _ c6 (by rw [h32])⟩
        have hK5 := hKS _ _ _ HKW.out hb5
        have hkp5 := HKP2.out.trans (KpC.of_below (g := g) hb5)
        rw [h32] at hRL
        have HRL := Aside0.mk hRL
        have HKP5 := Aside0.mk hkp5
        obtain ⟨fn, tmps, assign, body, hy, hYR⟩ := hY _ _ w5 #[.slice A6 32 c6] HPRE.out hK5 henc
        have HYR := Aside0.mk hYR
        clear hR5 hb5 hR6 hRL hbl hC6 h32 henc hK5 hkp5 hYR HRD HKW HKP2
        gi_wp2
        refine HYR.out.mono ?_
        rintro e w6 ⟨rfl, hk6, hkp6⟩
        have HK6 := Aside0.mk hk6
        have HKP6 := Aside0.mk (HKP5.out.trans hkp6)
        have HR6 := Aside0.mk (show RneVal W.heap.size g (codeL pass u) (.slice A6 32 c6) w6 from hkp6.row HRL.out (fun _ hk => hk))
        clear hk6 hkp6 HYR HRL HKP5
        gi_wp2
        go_roundw
        case rel => exact ⟨i + 1, by omega, by go_num, ⟨by rw [HSUCC.out]; exact HK6.out, HKP6.out, by rw [HU1.out]; exact HR6.out⟩⟩
        case measure => simp [intOf]; omega
      · obtain rfl : i = n := by omega
        have HKW := Aside0.mk hK
        clear hK hkp hR
        gi_wp2
        go_end0
        exact ⟨⟨_, rfl⟩, _, rfl, HKW.out⟩
end Go.Proofs.YtfmdpkilgnccfaaDoor.E
