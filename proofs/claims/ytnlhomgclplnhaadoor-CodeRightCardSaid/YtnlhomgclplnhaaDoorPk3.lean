import Derived.Test.YtnlhomgclplnhaaDoorPk2
import Derived.Maps.OwnSet
import Derived.Maps.StringElems
import Derived.StringKeys
import Derived.Test.YtnlhomgclplnhaaDoorPk1
import Derived.WalkSpells
import Derived.Test.YtnlhomgclplnhaaDoorWArr
import Derived.Deep.RegionWith
/- A set of names: a map of texts to true. -/
namespace Go.Proofs.YtnlhomgclplnhaaDoor.E
open Go.RowKit Go.Proofs.YtnlhomgclplnhaaDoorW.PrintWords Go.Proofs.YtnlhomgclplnhaaDoorW.PrintLast Go.Proofs.YtnlhomgclplnhaaDoorW.PrintMore Go.Proofs.YtnlhomgclplnhaaDoor.Pr
set_option linter.unusedVariables false
set_option linter.unusedSimpArgs false
def keyB (x : ByteArray) : Lit := .string x.data.toList
def nD : List ByteArray → DataW Unit
  | [] => .map []
  | x :: r => (nD r).put (keyB x) (.lit (.bool true))
theorem keyB_inj {a b : ByteArray} (h : keyB a = keyB b) : a = b := by
  unfold keyB at h
  injection h with h
  exact ByteArray.ext (Array.toList_inj.1 h)
theorem keyB_isKey (x : ByteArray) : WideAt.IsKeyLit (keyB x) := by unfold keyB; trivial
theorem nD_isMap : ∀ l, Maps.IsMap (nD l)
  | [] => Maps.isMap_empty
  | _ :: r => (nD_isMap r).put _ _
def inN (x : ByteArray) (l : List ByteArray) : Bool := l.any fun m => decide (m = x)
theorem nD_at (x : ByteArray) : ∀ l : List ByteArray, (nD l).atKey (keyB x) (.lit (.bool false)) = .lit (.bool (inN x l))
  | [] => rfl
  | m :: r => by
    by_cases e : m = x
    · subst e
      have h1 : inN m (m :: r) = true := by simp [inN]
      rw [h1]
      exact Maps.atKey_put_same (nD_isMap r) (keyB_isKey m) _ _
    · have h1 : inN x (m :: r) = inN x r := by simp [inN, e]
      rw [h1, ← nD_at x r]
      exact Maps.atKey_put_other (fun e2 => e (keyB_inj e2).symm) _ _
theorem lawK : Maps.Keyed Tryd.prog 9 := Maps.string_keyed Tryd.underlying9
def NamesS (b : Nat) (l : List ByteArray) (X : World) : Prop := X.ownsMap Tryd.prog 9 (plainElem Tryd.prog 4) b l.length (nD l)
theorem NamesS.lt {b : Nat} {l : List ByteArray} {X : World} (h : NamesS b l X) : b < X.heap.size := World.ownsMap.lt h
theorem NamesS.below {b : Nat} {l : List ByteArray} {X Y : World} (h : NamesS b l X) (hb : Below X.heap.size X Y) : NamesS b l Y := by
  obtain ⟨es, clock, h1, h2, h3, h4⟩ := h
  exact ⟨es, clock, (hb.block _ (Array.getElem?_eq_some_iff.1 h1).1).trans h1, h2, h3, h4⟩
set_option maxRecDepth 100000 in
theorem bool_inv {v : Value} {d : DataW Unit × List MemPlace} (h : plainElem (H := Unit) Tryd.prog 4 v = some d) : ∃ c, v = .bool c ∧ d = (.lit (.bool c), []) := by
  have hu := Tryd.underlying4
  simp only [plainElem, hu] at h
  cases v <;> simp at h
  exact ⟨_, rfl, h.symm⟩
theorem NamesS.look {b : Nat} {l : List ByteArray} {X : World} (h : NamesS b l X) (x : ByteArray) (hx : x.size ≤ 140737488351232) :
    (Instr.lookup 66 (.map (some b)) (.string x) false).run Tryd.prog X = .ok (.bool (inN x l)) X := by
  have hk : keyOf Tryd.prog 9 (.string x) = some (keyB x) := WideMaps.keyOf_string_mk Tryd.underlying9 (by unfold maxLen; omega)
  have hz : (zeroValue 4).run Tryd.prog X = .ok (.bool false) X := by kernel_rfl
  obtain ⟨v, ps, hrun, hv⟩ := World.ownsMap.lookup h lawK Tryd.underlying66 hz (zd := .lit (.bool false)) (zp := []) (plainElem_bool Tryd.underlying4 false) hk
  obtain ⟨c, rfl, hd⟩ := bool_inv hv
  rw [nD_at x l] at hd
  have h1 := congrArg Prod.fst hd
  simp only [DataW.lit.injEq, Lit.bool.injEq] at h1
  rw [hrun, ← h1]
theorem NamesS.store {b : Nat} {l : List ByteArray} {X : World} (h : NamesS b l X) (x : ByteArray) (hx : x.size ≤ 140737488351232) (hl : l.length ≤ 1000000) :
    ∃ Y, (Instr.mapUpdate 66 (.map (some b)) (.string x) (.bool true)).run Tryd.prog X = .ok () Y ∧ NamesS b (x :: l) Y ∧ X.grownBy Y (some b) := by
  have hk : keyOf Tryd.prog 9 (.string x) = some (keyB x) := WideMaps.keyOf_string_mk Tryd.underlying9 (by unfold maxLen; omega)
  obtain ⟨Y, hrun, ho, hg⟩ := World.ownsMap.update h lawK Tryd.underlying66 (by unfold maxLen; omega) hk (plainElem_bool (H := Unit) Tryd.underlying4 true)
  exact ⟨Y, hrun, ho, hg⟩
end Go.Proofs.YtnlhomgclplnhaaDoor.E


/- May a state be? -/
namespace Go.Proofs.YtnlhomgclplnhaaDoor.E
open Go.RowKit Go.Proofs.YtnlhomgclplnhaaDoorW.PrintWords Go.Proofs.YtnlhomgclplnhaaDoorW.PrintLast Go.Proofs.YtnlhomgclplnhaaDoorW.PrintMore Go.Proofs.YtnlhomgclplnhaaDoor.Pr
set_option linter.unusedVariables false
set_option linter.unusedSimpArgs false
attribute [local go_sem] opVal opUpon
def leS (a b : ByteArray) : Bool := Op.bytesLess a.toList b.toList || (a.toList == b.toList)
theorem run_leq1 (w : World) (a b : ByteArray) : (binOp .leq 9 (.string a) (.string b)).run Tryd.prog w = .ok (.bool (leS a b)) w := by
  simp [binOp, go_sem]
  rfl
theorem run_leq2 (w : World) (a b : ByteArray) : (Op.stringOp .leq a b).run Tryd.prog w = .ok (.bool (leS a b)) w := rfl
def userGood (last : ByteArray) (u : S33) : Bool := nameL (strL u.f0) && (!leS u.f0 last && (decide (u.f1.length = 16) && (decide (u.f2.length = 32) && (noteL (strL u.f3) && (decide (0 ≤ u.f4) && decide (u.f4 ≤ 1000000))))))
def usersGood : ByteArray → List S33 → Bool
  | _, [] => true
  | last, u :: r => userGood last u && usersGood u.f0 r
def sessGood (names : List ByteArray) (last : ByteArray) (x : S31) : Bool := idL x.f0 && (!leS x.f0 last && inN x.f1 names)
def sessesGood (names : List ByteArray) : ByteArray → List S31 → Bool
  | _, [] => true
  | last, x :: r => sessGood names last x && sessesGood names x.f0 r
def namesL (us : List S33) : List ByteArray := (us.map (·.f0)).reverse ++ [⟨#[]⟩]
/-- May a state be? As one Bool. -/
def rightL (us : List S33) (ss : List S31) : Bool := decide (us.length ≤ 50) && (decide (ss.length ≤ 200) && (usersGood ⟨#[]⟩ us && sessesGood (namesL us) ⟨#[]⟩ ss))
def USz (us : List S33) : Prop := ∀ u ∈ us, u.f0.size ≤ 140737488351232 ∧ u.f3.size ≤ 140737488351232
def SSz (ss : List S31) : Prop := ∀ u ∈ ss, u.f0.size ≤ 140737488351232 ∧ u.f1.size ≤ 140737488351232
theorem drop_users {us : List S33} {i : Nat} (h : i < us.length) : us.drop i = rd_T33 us (i : Int) :: us.drop (i + 1) := by
  rw [List.drop_eq_getElem_cons h]
  simp [rd_T33, List.getD_eq_getElem?_getD, h]
theorem drop_sess {us : List S31} {i : Nat} (h : i < us.length) : us.drop i = rd_T31 us (i : Int) :: us.drop (i + 1) := by
  rw [List.drop_eq_getElem_cons h]
  simp [rd_T31, List.getD_eq_getElem?_getD, h]
theorem names_step {us : List S33} {i : Nat} (h : i < us.length) : namesL (us.take (i + 1)) = (rd_T33 us (i : Int)).f0 :: namesL (us.take i) := by
  unfold namesL
  rw [List.take_succ_eq_append_getElem h, List.map_append, List.reverse_append]
  simp [rd_T33, List.getD_eq_getElem?_getD, h]
structure RightInv (W : World) (mb : Nat) (names : List ByteArray) (box : Array Value) (wr : World) : Prop where
  below : Below W.heap.size W wr
  box : wr.heap[W.heap.size]? = some (.cells box 27 (0, 0))
  names : NamesS mb names wr
  mb : W.heap.size < mb
theorem RightInv.to {W : World} {mb : Nat} {names : List ByteArray} {box : Array Value} {X Y : World} (h : RightInv W mb names box X) (hb : Below X.heap.size X Y) : RightInv W mb names box Y :=
  ⟨below_step h.below hb, (hb.block _ (Array.getElem?_eq_some_iff.1 h.box).1).trans h.box, h.names.below hb, h.mb⟩

set_option maxHeartbeats 32000000 in
set_option maxRecDepth 100000 in
theorem right_any (clock : Int) (Au : Option Addr) (nu cu : Nat) (us : List S33) (As : Option Addr) (ns cs : Nat) (ss : List S31) (W : World) (hC : Kd.C k33 W Au nu us) (hD : Kd.C k31 W As ns ss) (hcu : nu ≤ cu) (hcs : ns ≤ cs) (hU : USz us) (hS : SSz ss) (hG : RootsIn W) :
    Calls Tryd.prog 11 #[.agg #[.int .u64 clock, .slice Au nu cu, .slice As ns cs]] W (BoolB (rightL us ss) W) := by
  have hlu := Kd.C_len hC
  have hls := Kd.C_len hD
  have hmu := Kd.C_max hC
  have hms := Kd.C_max hD
  have hR0 : rightL us ss = (decide (nu ≤ 50) && (decide (ns ≤ 200) && (usersGood ⟨#[]⟩ us && sessesGood (namesL us) ⟨#[]⟩ ss))) := by rw [← hlu, ← hls]; rfl
  have HR := Aside0.mk hR0
  have HC := Aside0.mk hC
  have HD := Aside0.mk hD
  have HLU := Aside0.mk hlu
  have HLS := Aside0.mk hls
  have HU := Aside0.mk hU
  have HS := Aside0.mk hS
  have HG := Aside0.mk hG
  have hba := below_alloc (Below.refl W.heap.size W) (.cells #[.int .u64 clock, .slice Au nu cu, .slice As ns cs] 27)
  have hbx := heap_alloc_new W (.cells #[.int .u64 clock, .slice Au nu cu, .slice As ns cs] 27)
  have HBA := Aside0.mk hba
  have HBX := Aside0.mk hbx
  have hmm := @run_makeMap Tryd.prog
  clear hC hD hlu hls hU hS hG hR0 hba hbx
  unfold BoolB
  by_cases g1 : 50 < nu
  · have d1 : decide ((50 : Int) < (nu : Int)) = true := decide_eq_true (by omega)
    have z1 : (50 : Int) < (nu : Int) := by omega
    have G := Aside0.mk (show decide (nu ≤ 50) = false from decide_eq_false (by omega))
    clear g1
    go_enter Tryd.func11, Tryd.ntmps11
    go_wp2
    go_ret
    exact ⟨by rw [HR.out, G.out]; rfl, HBA.out⟩
  by_cases g2 : 200 < ns
  · have d1 : decide ((50 : Int) < (nu : Int)) = false := decide_eq_false (by omega)
    have z1 : ¬ (50 : Int) < (nu : Int) := by omega
    have d2 : decide ((200 : Int) < (ns : Int)) = true := decide_eq_true (by omega)
    have z2 : (200 : Int) < (ns : Int) := by omega
    have G := Aside0.mk (show decide (ns ≤ 200) = false from decide_eq_false (by omega))
    clear g1 g2
    go_enter Tryd.func11, Tryd.ntmps11
    go_wp2
    go_ret
    exact ⟨by rw [HR.out, G.out]; simp, HBA.out⟩
  have d1 : decide ((50 : Int) < (nu : Int)) = false := decide_eq_false (by omega)
  have z1 : ¬ (50 : Int) < (nu : Int) := by omega
  have d2 : decide ((200 : Int) < (ns : Int)) = false := decide_eq_false (by omega)
  have z2 : ¬ (200 : Int) < (ns : Int) := by omega
  have hR2 : rightL us ss = (usersGood ⟨#[]⟩ us && sessesGood (namesL us) ⟨#[]⟩ ss) := by
    rw [HR.out, decide_eq_true (show nu ≤ 50 by omega), decide_eq_true (show ns ≤ 200 by omega)]; rfl
  have HR2 := Aside0.mk hR2
  clear HR
  have hnu : nu ≤ 50 := by omega
  have hns : ns ≤ 200 := by omega
  have hm0 : NamesS (W.heap.size + 1) [] ((W.alloc (.cells #[.int .u64 clock, .slice Au nu cu, .slice As ns cs] 27)).alloc (.map #[] 0)) := by
    have h := World.ownsMap_made (H := Unit) (W.alloc (.cells #[.int .u64 clock, .slice Au nu cu, .slice As ns cs] 27)) Tryd.prog 9 (plainElem Tryd.prog 4)
    have e : (W.alloc (.cells #[.int .u64 clock, .slice Au nu cu, .slice As ns cs] 27)).heap.size = W.heap.size + 1 := by show (W.heap.push _).size = _; rw [Array.size_push]
    rw [e] at h
    exact h
  obtain ⟨Y0, hY0, hN0, hgr0⟩ := hm0.store ⟨#[]⟩ (by decide) (by decide)
  have hbal : Below (W.heap.size + 1) (W.alloc (.cells #[.int .u64 clock, .slice Au nu cu, .slice As ns cs] 27)) Y0 := by
    have e : (W.alloc (.cells #[.int .u64 clock, .slice Au nu cu, .slice As ns cs] 27)).heap.size = W.heap.size + 1 := by show (W.heap.push _).size = _; rw [Array.size_push]
    have h := below_alloc (Below.refl (W.alloc (.cells #[.int .u64 clock, .slice Au nu cu, .slice As ns cs] 27)).heap.size (W.alloc (.cells #[.int .u64 clock, .slice Au nu cu, .slice As ns cs] 27))) (.map #[] 0)
    rw [e] at h
    exact h.grown hgr0 (by show _ ≤ ((W.heap.push _).push _).size; rw [Array.size_push, Array.size_push]; omega) (fun k hk => by cases hk; exact Nat.le_refl _)
  have hinv0 : RightInv W (W.heap.size + 1) (namesL (us.take 0)) #[.int .u64 clock, .slice Au nu cu, .slice As ns cs] Y0 := ⟨HBA.out.trans (hbal.mono (Nat.le_succ _)), (hbal.block _ (Nat.lt_succ_self _)).trans HBX.out, hN0, Nat.lt_succ_self _⟩
  have HI0 := Aside0.mk hinv0
  clear g1 g2 hR2 hm0 hN0 hgr0 hbal hinv0
  go_enter Tryd.func11, Tryd.ntmps11
  have x1 : Y0.cell? ⟨W.heap.size, 1, none⟩ = some (.slice Au nu cu) := blk_cell HI0.out.box 1
  go_wp2
  clear x1 hY0
  go_loopw [4, 24] (fun v4 v24 wr => ∃ (i : Nat) (last : ByteArray), i ≤ nu ∧ v24 = .int .i64 (i : Int) ∧ v4 = .string last ∧ Aside0 (usersGood ⟨#[]⟩ us = usersGood last (us.drop i)) ∧ Aside0 (RightInv W (W.heap.size + 1) (namesL (us.take i)) #[.int .u64 clock, .slice Au nu cu, .slice As ns cs] wr)) (fun _ v24 _ => nu - (intOf v24).toNat)
  case atStart => exact ⟨0, ⟨#[]⟩, Nat.zero_le _, rfl, rfl, ⟨rfl⟩, HI0⟩

  case round =>
    obtain ⟨i, last, hi, rfl, rfl, HP, HI⟩ := hrel
    by_cases hlt : i < nu
    · have zi : (i : Int) < (nu : Int) := by omega
      have zd : decide ((i : Int) < (nu : Int)) = true := decide_eq_true zi
      have hiu : i < us.length := by rw [HLU.out]; exact hlt
      obtain ⟨ad, A1, c1, A2, c2, rfl, e0, e1, e2, e3, e4, e5, -, -, -, -⟩ := at_T33 (Kd.C_below HC.out HI.out.below) (i : Int) (by omega) (by omega)
      rw [Int.toNat_natCast] at e0 e1 e2 e3 e4 e5
      have hdu := drop_users hiu
      have hnm := names_step hiu
      have hmem : rd_T33 us (i : Int) ∈ us := by simp [rd_T33, List.getD_eq_getElem?_getD, hiu]
      obtain ⟨u, hu⟩ : ∃ u, u = rd_T33 us (i : Int) := ⟨_, rfl⟩
      rw [← hu] at e0 e1 e2 e3 e4 e5 hdu hnm hmem
      have hsz := HU.out u hmem
      have hq : usersGood ⟨#[]⟩ us = (userGood last u && usersGood u.f0 (us.drop (i + 1))) := by rw [HP.out, hdu]; rfl
      obtain ⟨b1, hb1⟩ : ∃ b, b = nameL (strL u.f0) := ⟨_, rfl⟩
      obtain ⟨b2, hb2⟩ : ∃ b, b = leS u.f0 last := ⟨_, rfl⟩
      obtain ⟨n1, hn1⟩ : ∃ n, n = u.f1.length := ⟨_, rfl⟩
      obtain ⟨n2, hn2⟩ : ∃ n, n = u.f2.length := ⟨_, rfl⟩
      obtain ⟨b5, hb5⟩ : ∃ b, b = noteL (strL u.f3) := ⟨_, rfl⟩
      obtain ⟨k4, hk4⟩ : ∃ k, k = u.f4 := ⟨_, rfl⟩
      have hug : userGood last u = (b1 && (!b2 && (decide (n1 = 16) && (decide (n2 = 32) && (b5 && (decide (0 ≤ k4) && decide (k4 ≤ 1000000))))))) := by rw [hb1, hb2, hn1, hn2, hb5, hk4]; rfl
      rw [hug] at hq
      have L1 := fun w : World => run_leq1 w u.f0 last
      have L2 := fun w : World => run_leq2 w u.f0 last
      rw [← hb2] at L1 L2
      have H1 := Aside0.mk (fun (X : World) (hX : Below W.heap.size W X) => text_Name.calls u.f0 b1 X (by rw [text_Name.f, if_pos hsz.1, hb1]) (HG.out.below rfl hX))
      have H2 := Aside0.mk (fun (X : World) (hX : Below W.heap.size W X) => text_Note.calls u.f3 b5 X (by rw [text_Note.f, if_pos hsz.2, hb5]) (HG.out.below rfl hX))
      rw [← hn1] at e1
      rw [← hn2] at e2
      rw [← hk4] at e4
      obtain ⟨s0, hs0⟩ : ∃ s, s = u.f0 := ⟨_, rfl⟩
      obtain ⟨s3, hs3⟩ : ∃ s, s = u.f3 := ⟨_, rfl⟩
      obtain ⟨k5, hk5⟩ : ∃ s, s = u.f5 := ⟨_, rfl⟩
      rw [← hs0] at e0 L1 L2 H1 hq hnm hsz
      rw [← hs3] at e3 H2 hsz
      rw [← hk5] at e5
      have hal := below_alloc (Below.refl wr.heap.size wr) (.cells #[.string s0, .slice A1 n1 c1, .slice A2 n2 c2, .string s3, .int .i64 k4, .int .u64 k5] 33)
      have hnw := heap_alloc_new wr (.cells #[.string s0, .slice A1 n1 c1, .slice A2 n2 c2, .string s3, .int .i64 k4, .int .u64 k5] 33)
      have HBX6 := Aside0.mk (fun (X : World) (hX : Below (wr.alloc (.cells #[.string s0, .slice A1 n1 c1, .slice A2 n2 c2, .string s3, .int .i64 k4, .int .u64 k5] 33)).heap.size (wr.alloc (.cells #[.string s0, .slice A1 n1 c1, .slice A2 n2 c2, .string s3, .int .i64 k4, .int .u64 k5] 33)) X) => (hX.block wr.heap.size (Array.getElem?_eq_some_iff.1 hnw).1).trans hnw)
      have HI1 := Aside0.mk (HI.out.to hal)
      have HQ := Aside0.mk hq
      have HNM := Aside0.mk hnm
      have HSZ := Aside0.mk hsz
      have HLT := Aside0.mk hlt
      clear hlt hiu hdu hnm hmem hu hsz hq hb1 hb2 hn1 hn2 hb5 hk4 hug hs0 hs3 hk5 hal hnw

      cases b1
      case false =>
        go_wp2_with (first | (go_at_call 31; ((with_reducible refine (H1.out _ HI1.out.below).mono ?_); rintro e w1 ⟨rfl, hb1⟩); (have x0 := blk_cell (HBX6.out w1 hb1) 0); (have x1 := blk_cell (HBX6.out w1 hb1) 1); (have x2 := blk_cell (HBX6.out w1 hb1) 2); (have x3 := blk_cell (HBX6.out w1 hb1) 3); (have x4 := blk_cell (HBX6.out w1 hb1) 4); (have x5 := blk_cell (HBX6.out w1 hb1) 5); simp only [List.getElem?_toArray, List.getElem?_cons_zero, List.getElem?_cons_succ] at x0 x1 x2 x3 x4 x5; (have HI2 := Aside0.mk (HI1.out.to hb1)); (have HW1 := Aside0.mk hb1); clear hb1 e0 e1 e2 e3 e4 e5))
        go_ret
        exact ⟨by rw [HR2.out, HQ.out]; simp, HI2.out.below⟩
      cases b2
      case true =>
        go_wp2_with (first | (go_at_call 31; ((with_reducible refine (H1.out _ HI1.out.below).mono ?_); rintro e w1 ⟨rfl, hb1⟩); (have x0 := blk_cell (HBX6.out w1 hb1) 0); (have x1 := blk_cell (HBX6.out w1 hb1) 1); (have x2 := blk_cell (HBX6.out w1 hb1) 2); (have x3 := blk_cell (HBX6.out w1 hb1) 3); (have x4 := blk_cell (HBX6.out w1 hb1) 4); (have x5 := blk_cell (HBX6.out w1 hb1) 5); simp only [List.getElem?_toArray, List.getElem?_cons_zero, List.getElem?_cons_succ] at x0 x1 x2 x3 x4 x5; (have HI2 := Aside0.mk (HI1.out.to hb1)); (have HW1 := Aside0.mk hb1); clear hb1 e0 e1 e2 e3 e4 e5))
        go_ret
        exact ⟨by rw [HR2.out, HQ.out]; simp, HI2.out.below⟩
      by_cases h16 : n1 = 16
      case neg =>
        have y1 : ((n1 : Int) == 16) = false := by rw [beq_eq_false_iff_ne]; omega
        have y2 : ((n1 : Int) != 16) = true := by rw [bne_iff_ne]; omega
        have H16 := Aside0.mk h16
        clear h16
        go_wp2_with (first | (go_at_call 31; ((with_reducible refine (H1.out _ HI1.out.below).mono ?_); rintro e w1 ⟨rfl, hb1⟩); (have x0 := blk_cell (HBX6.out w1 hb1) 0); (have x1 := blk_cell (HBX6.out w1 hb1) 1); (have x2 := blk_cell (HBX6.out w1 hb1) 2); (have x3 := blk_cell (HBX6.out w1 hb1) 3); (have x4 := blk_cell (HBX6.out w1 hb1) 4); (have x5 := blk_cell (HBX6.out w1 hb1) 5); simp only [List.getElem?_toArray, List.getElem?_cons_zero, List.getElem?_cons_succ] at x0 x1 x2 x3 x4 x5; (have HI2 := Aside0.mk (HI1.out.to hb1)); (have HW1 := Aside0.mk hb1); clear hb1 e0 e1 e2 e3 e4 e5))
        go_ret
        exact ⟨by rw [HR2.out, HQ.out]; simp [H16.out], HI2.out.below⟩
      subst h16
      by_cases h32 : n2 = 32
      case neg =>
        have y1 : ((n2 : Int) == 32) = false := by rw [beq_eq_false_iff_ne]; omega
        have y2 : ((n2 : Int) != 32) = true := by rw [bne_iff_ne]; omega
        have H32 := Aside0.mk h32
        clear h32
        go_wp2_with (first | (go_at_call 31; ((with_reducible refine (H1.out _ HI1.out.below).mono ?_); rintro e w1 ⟨rfl, hb1⟩); (have x0 := blk_cell (HBX6.out w1 hb1) 0); (have x1 := blk_cell (HBX6.out w1 hb1) 1); (have x2 := blk_cell (HBX6.out w1 hb1) 2); (have x3 := blk_cell (HBX6.out w1 hb1) 3); (have x4 := blk_cell (HBX6.out w1 hb1) 4); (have x5 := blk_cell (HBX6.out w1 hb1) 5); simp only [List.getElem?_toArray, List.getElem?_cons_zero, List.getElem?_cons_succ] at x0 x1 x2 x3 x4 x5; (have HI2 := Aside0.mk (HI1.out.to hb1)); (have HW1 := Aside0.mk hb1); clear hb1 e0 e1 e2 e3 e4 e5))
        go_ret
        exact ⟨by rw [HR2.out, HQ.out]; simp [H32.out], HI2.out.below⟩
      subst h32
      cases b5
      case false =>
        go_wp2_with (first | (go_at_call 32; ((with_reducible refine (H2.out _ HI2.out.below).mono ?_); rintro e w2 ⟨rfl, hb2⟩); clear x0 x1 x2 x3 x4 x5; (have x0 := blk_cell (HBX6.out w2 (below_step HW1.out hb2)) 0); (have x1 := blk_cell (HBX6.out w2 (below_step HW1.out hb2)) 1); (have x2 := blk_cell (HBX6.out w2 (below_step HW1.out hb2)) 2); (have x3 := blk_cell (HBX6.out w2 (below_step HW1.out hb2)) 3); (have x4 := blk_cell (HBX6.out w2 (below_step HW1.out hb2)) 4); (have x5 := blk_cell (HBX6.out w2 (below_step HW1.out hb2)) 5); simp only [List.getElem?_toArray, List.getElem?_cons_zero, List.getElem?_cons_succ] at x0 x1 x2 x3 x4 x5; (have HI3 := Aside0.mk (HI2.out.to hb2)); (have HW2 := Aside0.mk (below_step HW1.out hb2)); clear hb2) | (go_at_call 31; ((with_reducible refine (H1.out _ HI1.out.below).mono ?_); rintro e w1 ⟨rfl, hb1⟩); (have x0 := blk_cell (HBX6.out w1 hb1) 0); (have x1 := blk_cell (HBX6.out w1 hb1) 1); (have x2 := blk_cell (HBX6.out w1 hb1) 2); (have x3 := blk_cell (HBX6.out w1 hb1) 3); (have x4 := blk_cell (HBX6.out w1 hb1) 4); (have x5 := blk_cell (HBX6.out w1 hb1) 5); simp only [List.getElem?_toArray, List.getElem?_cons_zero, List.getElem?_cons_succ] at x0 x1 x2 x3 x4 x5; (have HI2 := Aside0.mk (HI1.out.to hb1)); (have HW1 := Aside0.mk hb1); clear hb1 e0 e1 e2 e3 e4 e5))
        go_ret
        exact ⟨by rw [HR2.out, HQ.out]; simp, HI3.out.below⟩
      by_cases h4 : k4 < 0
      case pos =>
        have y1 : decide (k4 < 0) = true := decide_eq_true h4
        have H4 := Aside0.mk (show decide (0 ≤ k4) = false from decide_eq_false (by omega))
        go_wp2_with (first | (go_at_call 32; ((with_reducible refine (H2.out _ HI2.out.below).mono ?_); rintro e w2 ⟨rfl, hb2⟩); clear x0 x1 x2 x3 x4 x5; (have x0 := blk_cell (HBX6.out w2 (below_step HW1.out hb2)) 0); (have x1 := blk_cell (HBX6.out w2 (below_step HW1.out hb2)) 1); (have x2 := blk_cell (HBX6.out w2 (below_step HW1.out hb2)) 2); (have x3 := blk_cell (HBX6.out w2 (below_step HW1.out hb2)) 3); (have x4 := blk_cell (HBX6.out w2 (below_step HW1.out hb2)) 4); (have x5 := blk_cell (HBX6.out w2 (below_step HW1.out hb2)) 5); simp only [List.getElem?_toArray, List.getElem?_cons_zero, List.getElem?_cons_succ] at x0 x1 x2 x3 x4 x5; (have HI3 := Aside0.mk (HI2.out.to hb2)); (have HW2 := Aside0.mk (below_step HW1.out hb2)); clear hb2) | (go_at_call 31; ((with_reducible refine (H1.out _ HI1.out.below).mono ?_); rintro e w1 ⟨rfl, hb1⟩); (have x0 := blk_cell (HBX6.out w1 hb1) 0); (have x1 := blk_cell (HBX6.out w1 hb1) 1); (have x2 := blk_cell (HBX6.out w1 hb1) 2); (have x3 := blk_cell (HBX6.out w1 hb1) 3); (have x4 := blk_cell (HBX6.out w1 hb1) 4); (have x5 := blk_cell (HBX6.out w1 hb1) 5); simp only [List.getElem?_toArray, List.getElem?_cons_zero, List.getElem?_cons_succ] at x0 x1 x2 x3 x4 x5; (have HI2 := Aside0.mk (HI1.out.to hb1)); (have HW1 := Aside0.mk hb1); clear hb1 e0 e1 e2 e3 e4 e5))
        go_ret
        exact ⟨by rw [HR2.out, HQ.out]; simp [H4.out], HI3.out.below⟩
      have y4 : decide (k4 < 0) = false := decide_eq_false h4
      by_cases h5 : 1000000 < k4
      case pos =>
        have y1 : decide ((1000000 : Int) < k4) = true := decide_eq_true h5
        have H4 := Aside0.mk (show decide (k4 ≤ 1000000) = false from decide_eq_false (by omega))
        go_wp2_with (first | (go_at_call 32; ((with_reducible refine (H2.out _ HI2.out.below).mono ?_); rintro e w2 ⟨rfl, hb2⟩); clear x0 x1 x2 x3 x4 x5; (have x0 := blk_cell (HBX6.out w2 (below_step HW1.out hb2)) 0); (have x1 := blk_cell (HBX6.out w2 (below_step HW1.out hb2)) 1); (have x2 := blk_cell (HBX6.out w2 (below_step HW1.out hb2)) 2); (have x3 := blk_cell (HBX6.out w2 (below_step HW1.out hb2)) 3); (have x4 := blk_cell (HBX6.out w2 (below_step HW1.out hb2)) 4); (have x5 := blk_cell (HBX6.out w2 (below_step HW1.out hb2)) 5); simp only [List.getElem?_toArray, List.getElem?_cons_zero, List.getElem?_cons_succ] at x0 x1 x2 x3 x4 x5; (have HI3 := Aside0.mk (HI2.out.to hb2)); (have HW2 := Aside0.mk (below_step HW1.out hb2)); clear hb2) | (go_at_call 31; ((with_reducible refine (H1.out _ HI1.out.below).mono ?_); rintro e w1 ⟨rfl, hb1⟩); (have x0 := blk_cell (HBX6.out w1 hb1) 0); (have x1 := blk_cell (HBX6.out w1 hb1) 1); (have x2 := blk_cell (HBX6.out w1 hb1) 2); (have x3 := blk_cell (HBX6.out w1 hb1) 3); (have x4 := blk_cell (HBX6.out w1 hb1) 4); (have x5 := blk_cell (HBX6.out w1 hb1) 5); simp only [List.getElem?_toArray, List.getElem?_cons_zero, List.getElem?_cons_succ] at x0 x1 x2 x3 x4 x5; (have HI2 := Aside0.mk (HI1.out.to hb1)); (have HW1 := Aside0.mk hb1); clear hb1 e0 e1 e2 e3 e4 e5))
        go_ret
        exact ⟨by rw [HR2.out, HQ.out]; simp [H4.out], HI3.out.below⟩
      have y5 : decide ((1000000 : Int) < k4) = false := decide_eq_false h5
      have HG4 := Aside0.mk (show decide (0 ≤ k4) = true ∧ decide (k4 ≤ 1000000) = true from ⟨decide_eq_true (by omega), decide_eq_true (by omega)⟩)
      go_wp2_with (first | (go_at_call 32; ((with_reducible refine (H2.out _ HI2.out.below).mono ?_); rintro e w2 ⟨rfl, hb2⟩); clear x0 x1 x2 x3 x4 x5; (have x0 := blk_cell (HBX6.out w2 (below_step HW1.out hb2)) 0); (have x1 := blk_cell (HBX6.out w2 (below_step HW1.out hb2)) 1); (have x2 := blk_cell (HBX6.out w2 (below_step HW1.out hb2)) 2); (have x3 := blk_cell (HBX6.out w2 (below_step HW1.out hb2)) 3); (have x4 := blk_cell (HBX6.out w2 (below_step HW1.out hb2)) 4); (have x5 := blk_cell (HBX6.out w2 (below_step HW1.out hb2)) 5); simp only [List.getElem?_toArray, List.getElem?_cons_zero, List.getElem?_cons_succ] at x0 x1 x2 x3 x4 x5; (have HI3 := Aside0.mk (HI2.out.to hb2)); (have HW2 := Aside0.mk (below_step HW1.out hb2)); clear hb2) | (go_at_call 31; ((with_reducible refine (H1.out _ HI1.out.below).mono ?_); rintro e w1 ⟨rfl, hb1⟩); (have x0 := blk_cell (HBX6.out w1 hb1) 0); (have x1 := blk_cell (HBX6.out w1 hb1) 1); (have x2 := blk_cell (HBX6.out w1 hb1) 2); (have x3 := blk_cell (HBX6.out w1 hb1) 3); (have x4 := blk_cell (HBX6.out w1 hb1) 4); (have x5 := blk_cell (HBX6.out w1 hb1) 5); simp only [List.getElem?_toArray, List.getElem?_cons_zero, List.getElem?_cons_succ] at x0 x1 x2 x3 x4 x5; (have HI2 := Aside0.mk (HI1.out.to hb1)); (have HW1 := Aside0.mk hb1); clear hb1 e0 e1 e2 e3 e4 e5))
      have hns0 : NamesS (W.heap.size + 1) (namesL (us.take i)) w2.drew := HI3.out.names.below (Below.refl _ _).drew
      obtain ⟨Y, hY, hN, hgr⟩ := hns0.store s0 HSZ.out.1 (by unfold namesL; rw [List.length_append, List.length_reverse, List.length_map, List.length_take]; simp; omega)
      have hbxY := (hgr.block wr.heap.size (Nat.lt_of_lt_of_le (by show wr.heap.size < (wr.heap.push _).size; rw [Array.size_push]; exact Nat.lt_succ_self _) HW2.out.size) (fun e => by injection e with e; have := HI.out.names.lt; omega)).trans (HBX6.out w2 HW2.out)
      have v0 := blk_cell hbxY 0
      simp only [List.getElem?_toArray, List.getElem?_cons_zero] at v0
      have hinv : RightInv W (W.heap.size + 1) (namesL (us.take (i + 1))) #[.int .u64 clock, .slice (some ad) nu cu, .slice As ns cs] Y := ⟨(HI3.out.below.drew).grown hgr HI3.out.below.drew.size (fun q e => by injection e with e; omega), (hgr.block _ (Array.getElem?_eq_some_iff.1 HI3.out.box).1 (fun e => by injection e with e; omega)).trans HI3.out.box, by rw [HNM.out]; exact hN, Nat.lt_succ_self _⟩
      have HINV := Aside0.mk hinv
      have HQ2 : Aside0 (usersGood ⟨#[]⟩ us = usersGood s0 (us.drop (i + 1))) := ⟨by rw [HQ.out, HG4.out.1, HG4.out.2]; rfl⟩
      clear hns0 hN hgr hbxY hinv
      go_wp2
      go_region
      all_goals
        go_wp2
        go_roundw
        case rel => exact ⟨i + 1, s0, HLT.out, by go_num, rfl, HQ2, HINV⟩
        case measure => have := HLT.out; simp [intOf]; omega
    · have zi : ¬ (i : Int) < (nu : Int) := by omega
      have zd : decide ((i : Int) < (nu : Int)) = false := decide_eq_false zi
      obtain rfl : i = nu := by omega
      have hU2 : usersGood ⟨#[]⟩ us = true := by rw [HP.out, List.drop_of_length_le (by rw [HLU.out]; exact Nat.le_refl _)]; rfl
      have hR3 : rightL us ss = sessesGood (namesL us) ⟨#[]⟩ ss := by rw [HR2.out, hU2]; rfl
      have hI2 : RightInv W (W.heap.size + 1) (namesL us) #[.int .u64 clock, .slice Au i cu, .slice As ns cs] wr := by
        have h := HI.out
        rwa [List.take_of_length_le (by rw [HLU.out]; exact Nat.le_refl _)] at h
      have x2 : wr.cell? ⟨W.heap.size, 2, none⟩ = some (.slice As ns cs) := blk_cell HI.out.box 2
      have HR3 := Aside0.mk hR3
      have HI2 := Aside0.mk hI2
      obtain ⟨nm, hnm⟩ : ∃ l, l = namesL us := ⟨_, rfl⟩
      rw [← hnm] at HR3 HI2
      clear hU2 hR3 hI2 hnm hlt zi zd HI HP
      go_wp2
      clear x2
      obtain ⟨wo, rfl⟩ : ∃ wo : World, wo = wr := ⟨_, rfl⟩
      go_loopw [4, 75] (fun v4 v75 wr => ∃ (j : Nat) (last : ByteArray), j ≤ ns ∧ v75 = .int .i64 (j : Int) ∧ v4 = .string last ∧ Aside0 (sessesGood nm ⟨#[]⟩ ss = sessesGood nm last (ss.drop j)) ∧ Aside0 (RightInv W (W.heap.size + 1) nm #[.int .u64 clock, .slice Au i cu, .slice As ns cs] wr)) (fun _ v75 _ => ns - (intOf v75).toNat)
      case atStart => exact ⟨0, ⟨#[]⟩, Nat.zero_le _, rfl, rfl, ⟨rfl⟩, HI2⟩
      case round =>
        obtain ⟨j, last, hj, rfl, rfl, HP, HI⟩ := hrel
        by_cases hlt : j < ns
        · have zi : (j : Int) < (ns : Int) := by omega
          have zd : decide ((j : Int) < (ns : Int)) = true := decide_eq_true zi
          have hiu : j < ss.length := by rw [HLS.out]; exact hlt
          obtain ⟨ad, ead, e0, e1, e2, e3, e4⟩ := at_T31 (Kd.C_below HD.out HI.out.below) (j : Int) (by omega) (by omega)
          subst ead
          rw [Int.toNat_natCast] at e0 e1 e2 e3 e4
          have hdu := drop_sess hiu
          have hmem : rd_T31 ss (j : Int) ∈ ss := by simp [rd_T31, List.getD_eq_getElem?_getD, hiu]
          obtain ⟨u, hu⟩ : ∃ u, u = rd_T31 ss (j : Int) := ⟨_, rfl⟩
          rw [← hu] at e0 e1 e2 e3 e4 hdu hmem
          have hsz := HS.out u hmem
          have hq : sessesGood nm ⟨#[]⟩ ss = (sessGood nm last u && sessesGood nm u.f0 (ss.drop (j + 1))) := by rw [HP.out, hdu]; rfl
          obtain ⟨b1, hb1⟩ : ∃ b, b = idL u.f0 := ⟨_, rfl⟩
          obtain ⟨b2, hb2⟩ : ∃ b, b = leS u.f0 last := ⟨_, rfl⟩
          obtain ⟨b3, hb3⟩ : ∃ b, b = inN u.f1 nm := ⟨_, rfl⟩
          have hug : sessGood nm last u = (b1 && (!b2 && b3)) := by rw [hb1, hb2, hb3]; rfl
          rw [hug] at hq
          have L1 := fun w : World => run_leq1 w u.f0 last
          have L2 := fun w : World => run_leq2 w u.f0 last
          rw [← hb2] at L1 L2
          have H1 := Aside0.mk (fun (X : World) => hexa_ID.calls u.f0 b1 X (by rw [id_some _ hsz.1, hb1]))
          have H3 := Aside0.mk (fun (X : World) (hX : NamesS (W.heap.size + 1) nm X) => hX.look u.f1 hsz.2)
          rw [← hb3] at H3
          obtain ⟨s0, hs0⟩ : ∃ s, s = u.f0 := ⟨_, rfl⟩
          obtain ⟨s1, hs1⟩ : ∃ s, s = u.f1 := ⟨_, rfl⟩
          obtain ⟨k2, hk2⟩ : ∃ s, s = u.f2 := ⟨_, rfl⟩
          obtain ⟨k3, hk3⟩ : ∃ s, s = u.f3 := ⟨_, rfl⟩
          obtain ⟨k4, hk4⟩ : ∃ s, s = u.f4 := ⟨_, rfl⟩
          rw [← hs0] at e0 L1 L2 H1 hq
          rw [← hs1] at e1 H3
          rw [← hk2] at e2
          rw [← hk3] at e3
          rw [← hk4] at e4
          have hal := below_alloc (Below.refl wr.heap.size wr) (.cells #[.string s0, .string s1, .int .u64 k2, .int .u64 k3, .bool k4] 31)
          have hnw := heap_alloc_new wr (.cells #[.string s0, .string s1, .int .u64 k2, .int .u64 k3, .bool k4] 31)
          have HBX5 := Aside0.mk (fun (X : World) (hX : Below (wr.alloc (.cells #[.string s0, .string s1, .int .u64 k2, .int .u64 k3, .bool k4] 31)).heap.size (wr.alloc (.cells #[.string s0, .string s1, .int .u64 k2, .int .u64 k3, .bool k4] 31)) X) => (hX.block wr.heap.size (Array.getElem?_eq_some_iff.1 hnw).1).trans hnw)
          have HI1 := Aside0.mk (HI.out.to hal)
          have HQ := Aside0.mk hq
          have HLT := Aside0.mk hlt
          clear hlt hiu hdu hmem hu hsz hq hb1 hb2 hb3 hug hs0 hs1 hk2 hk3 hk4 hal hnw
          cases b1
          case false =>
            go_wp2_with (go_at_call 33; ((with_reducible refine (H1.out _).mono ?_); rintro e w1 ⟨rfl, hb1⟩); (have x0 := blk_cell (HBX5.out w1 hb1) 0); (have x1 := blk_cell (HBX5.out w1 hb1) 1); simp only [List.getElem?_toArray, List.getElem?_cons_zero, List.getElem?_cons_succ] at x0 x1; (have HI3 := Aside0.mk (HI1.out.to hb1)); (have l3 := H3.out w1 HI3.out.names); clear hb1 e0 e1 e2 e3 e4)
            go_ret
            exact ⟨by rw [HR3.out, HQ.out]; simp, HI3.out.below⟩
          cases b2
          case true =>
            go_wp2_with (go_at_call 33; ((with_reducible refine (H1.out _).mono ?_); rintro e w1 ⟨rfl, hb1⟩); (have x0 := blk_cell (HBX5.out w1 hb1) 0); (have x1 := blk_cell (HBX5.out w1 hb1) 1); simp only [List.getElem?_toArray, List.getElem?_cons_zero, List.getElem?_cons_succ] at x0 x1; (have HI3 := Aside0.mk (HI1.out.to hb1)); (have l3 := H3.out w1 HI3.out.names); clear hb1 e0 e1 e2 e3 e4)
            go_ret
            exact ⟨by rw [HR3.out, HQ.out]; simp, HI3.out.below⟩
          cases b3
          case false =>
            go_wp2_with (go_at_call 33; ((with_reducible refine (H1.out _).mono ?_); rintro e w1 ⟨rfl, hb1⟩); (have x0 := blk_cell (HBX5.out w1 hb1) 0); (have x1 := blk_cell (HBX5.out w1 hb1) 1); simp only [List.getElem?_toArray, List.getElem?_cons_zero, List.getElem?_cons_succ] at x0 x1; (have HI3 := Aside0.mk (HI1.out.to hb1)); (have l3 := H3.out w1 HI3.out.names); clear hb1 e0 e1 e2 e3 e4)
            go_ret
            exact ⟨by rw [HR3.out, HQ.out]; simp, HI3.out.below⟩
          have HQ2 : Aside0 (sessesGood nm ⟨#[]⟩ ss = sessesGood nm s0 (ss.drop (j + 1))) := ⟨by rw [HQ.out]; rfl⟩
          go_wp2_with (go_at_call 33; ((with_reducible refine (H1.out _).mono ?_); rintro e w1 ⟨rfl, hb1⟩); (have x0 := blk_cell (HBX5.out w1 hb1) 0); (have x1 := blk_cell (HBX5.out w1 hb1) 1); simp only [List.getElem?_toArray, List.getElem?_cons_zero, List.getElem?_cons_succ] at x0 x1; (have HI3 := Aside0.mk (HI1.out.to hb1)); (have l3 := H3.out w1 HI3.out.names); clear hb1 e0 e1 e2 e3 e4)
          go_roundw
          case rel => exact ⟨j + 1, s0, HLT.out, by go_num, rfl, HQ2, HI3⟩
          case measure => have := HLT.out; simp [intOf]; omega
        · have zi : ¬ (j : Int) < (ns : Int) := by omega
          have zd : decide ((j : Int) < (ns : Int)) = false := decide_eq_false zi
          obtain rfl : j = ns := by omega
          have HF : Aside0 (sessesGood nm ⟨#[]⟩ ss = true) := ⟨by rw [HP.out, List.drop_of_length_le (by rw [HLS.out]; exact Nat.le_refl _)]; rfl⟩
          clear hlt
          go_wp2
          go_ret
          exact ⟨by rw [HR3.out, HF.out]; rfl, HI.out.below⟩
end Go.Proofs.YtnlhomgclplnhaaDoor.E


/- The writer of package code: a user, a session (the closures of code.state). -/
namespace Go.Proofs.YtnlhomgclplnhaaDoor.E
open Go.RowKit Go.Proofs.YtnlhomgclplnhaaDoorW.PrintWords Go.Proofs.YtnlhomgclplnhaaDoorW.PrintLast Go.Proofs.YtnlhomgclplnhaaDoorW.PrintMore Go.Proofs.YtnlhomgclplnhaaDoor.Pr
set_option linter.unusedVariables false
set_option linter.unusedSimpArgs false
attribute [local go_sem] opVal opUpon
theorem wnum_box (B g : Nat) (l : List Int) (b off T : Nat) (cs : Array Value) (n wide : Nat) (X : World) (hW : WrAt B g l X) (hb : X.heap[b]? = some (.cells cs T (0, 0))) (hc : cs[off]? = some (.int .u64 (n : Int))) (hp : num_Put.f 9 (n : Int) (wide : Int) = some (beN n wide)) (hl : l.length + wide ≤ 1000000) :
    Calls Tryd.prog 101 #[.pointer (some ⟨g, 0, none⟩), .pointer (some ⟨b, off, none⟩), .int .i64 (wide : Int)] X (WrPost B g (l ++ beN n wide) X) :=
  wnum_any B g l ⟨b, off, none⟩ n wide X hW (by rw [cell_of_row X b off cs T (0, 0) hb]; exact hc) hp hl
/-- All blocks but the writer's, one other, and rows of bytes stay. -/
def Kept2 (g b : Nat) (X Y : World) : Prop := ∀ k o, X.heap[k]? = some o → k ≠ g → k ≠ b → (∀ (c : Array Value) (fz : Nat × Nat), o ≠ .cells c 5 fz) → Y.heap[k]? = some o
theorem Kept2.refl (g b : Nat) (X : World) : Kept2 g b X X := fun _ _ h _ _ _ => h
theorem Kept2.trans {g b : Nat} {X Y Z : World} (h : Kept2 g b X Y) (k : Kept2 g b Y Z) : Kept2 g b X Z := fun i o hi h1 h2 h3 => k i o (h i o hi h1 h2 h3) h1 h2 h3
theorem Kept2.of {g b : Nat} {X Y : World} (h : Lib.OthersKept 5 (some g) X Y) : Kept2 g b X Y := fun i o hi h1 _ h3 => h i o hi (fun e => h1 (by injection e)) h3
theorem Kept2.cell {g b : Nat} {X Y : World} (h : Kept2 g b X Y) {k : Nat} {cs : Array Value} {T : Nat} {fr : Nat × Nat} (hk : X.heap[k]? = some (.cells cs T fr)) (hT : T ≠ 5) (hg : k ≠ g) (hb : k ≠ b) : Y.heap[k]? = some (.cells cs T fr) :=
  h k _ hk hg hb (fun c fz e => hT (by injection e))
theorem set_ne {cs : Array Value} {i j : Nat} {v : Value} (h : i ≠ j) : (cs.setIfInBounds i v)[j]? = cs[j]? := by rw [Array.getElem?_setIfInBounds, if_neg h]

/-- What one element's closure leaves. -/
def ElemPost (B g : Nat) (l : List Int) (b off nf T : Nat) (cs : Array Value) (X : World) (e : Ending) (w' : World) : Prop :=
  e = .returned (.tuple #[]) ∧ WrAt B g l w' ∧ Below B X w' ∧ Kept2 g b X w' ∧ ∃ cs' : Array Value, w'.heap[b]? = some (.cells cs' T (0, 0)) ∧ cs'.size = cs.size ∧ ∀ m, m < off ∨ off + nf ≤ m → cs'[m]? = cs[m]?
/-- A user, and a session, as the chapter lays them. -/
def userB (s0 : ByteArray) (r1 r2 : List Int) (s3 : ByteArray) (n4 n5 : Nat) : List Int := strB s0 ++ (beN r1.length 2 ++ r1) ++ (beN r2.length 2 ++ r2) ++ strB s3 ++ beN n4 4 ++ beN n5 8
def sessB (s0 s1 : ByteArray) (n2 n3 : Nat) (b4 : Bool) : List Int := strB s0 ++ strB s1 ++ beN n2 8 ++ beN n3 8 ++ beN (if b4 then 1 else 0) 1
theorem userB_len (s0 : ByteArray) (r1 r2 : List Int) (s3 : ByteArray) (n4 n5 : Nat) : (userB s0 r1 r2 s3 n4 n5).length = 20 + s0.size + r1.length + r2.length + s3.size := by
  simp only [userB, List.length_append, strB_len, beN_length]; omega
theorem sessB_len (s0 s1 : ByteArray) (n2 n3 : Nat) (b4 : Bool) : (sessB s0 s1 n2 n3 b4).length = 21 + s0.size + s1.size := by
  simp only [sessB, List.length_append, strB_len, beN_length]; omega
set_option maxHeartbeats 8000000 in
set_option maxRecDepth 100000 in
theorem wuser_any (B g : Nat) (L0 : List Int) (fb b off : Nat) (T : Nat) (cs : Array Value) (s0 : ByteArray) (A1 : Option Addr) (m1 c1 : Nat) (r1 : List Int) (A2 : Option Addr) (m2 c2 : Nat) (r2 : List Int) (s3 : ByteArray) (n4 n5 : Nat) (w1 : World) (hW : WrAt B g L0 w1) (hf : w1.heap[fb]? = some (.cells #[.iface 60 (.pointer (some ⟨g, 0, none⟩))] 70 (0, 0))) (hfg : fb ≠ g) (hfb : fb ≠ b)
    (hb : w1.heap[b]? = some (.cells cs T (0, 0))) (hT : T ≠ 5) (hbg : b ≠ g) (hBb : B ≤ b) (hc0 : cs[off]? = some (.string s0)) (hc1 : cs[off + 1]? = some (.slice A1 m1 c1)) (hc2 : cs[off + 2]? = some (.slice A2 m2 c2)) (hc3 : cs[off + 3]? = some (.string s3)) (hc4 : cs[off + 4]? = some (.int .i64 (n4 : Int))) (hc5 : cs[off + 5]? = some (.int .u64 (n5 : Int)))
    (hC1 : ∀ Y, Below B w1 Y → Kd.C (Kd.int .u8) Y A1 m1 r1) (hb1 : ∀ x ∈ r1, 0 ≤ x ∧ x ≤ 255) (hC2 : ∀ Y, Below B w1 Y → Kd.C (Kd.int .u8) Y A2 m2 r2) (hb2 : ∀ x ∈ r2, 0 ≤ x ∧ x ≤ 255) (hn4 : n4 ≤ 1000000) (hl : L0.length + s0.size + m1 + m2 + s3.size ≤ 800000) :
    Calls Tryd.prog 54 #[.pointer (some ⟨b, off, none⟩), .pointer (some ⟨fb, 0, none⟩)] w1 (ElemPost B g (L0 ++ userB s0 r1 r2 s3 n4 n5) b off 6 T cs w1) := by
  have q1 := wNilT
  have q2 := wMetT
  have q3 := wNilN
  have q4 := wMetN
  have hmf : ∀ (fn : Fn) (first cap : Array Value) (w : World), (Instr.makeFunc fn first cap).run Tryd.prog w = .ok (.func fn first cap) w := fun _ _ _ _ => rfl
  have HW1 := Aside0.mk hW
  have HF1 := Aside0.mk hf
  have HFB := Aside0.mk (And.intro hfg hfb)
  have HB1 := Aside0.mk hb
  have HTb := Aside0.mk (And.intro hT trivial)
  have HBG := Aside0.mk (And.intro hbg hBb)
  have HL := Aside0.mk hl
  have HX1 := Aside0.mk (Below.refl B w1)
  have HK1 := Aside0.mk (Kept2.refl g b w1)
  have hm1 : r1.length = m1 := Kd.C_len (hC1 w1 (Below.refl _ _))
  have hm2 : r2.length = m2 := Kd.C_len (hC2 w1 (Below.refl _ _))
  have HR1 := Aside0.mk (And.intro hC1 (And.intro hb1 hm1))
  have HR2 := Aside0.mk (And.intro hC2 (And.intro hb2 hm2))
  have HN := Aside0.mk hn4
  have HC0 := Aside0.mk hc0
  have HC1 := Aside0.mk hc1
  have HC2 := Aside0.mk hc2
  have HC3 := Aside0.mk hc3
  have HC4 := Aside0.mk hc4
  have HC5 := Aside0.mk hc5
  clear hW hf hfg hfb hb hT hbg hBb hl hc0 hc1 hc2 hc3 hc4 hc5 hC1 hb1 hC2 hb2 hn4 hm1 hm2
  go_enter Tryd.func54, Tryd.ntmps54
  obtain ⟨L1, hL1⟩ : ∃ L, L = L0 ++ strB s0 := ⟨_, rfl⟩
  have E1 := Aside0.mk (show L1.length = L0.length + (2 + s0.size) by rw [hL1, List.length_append, strB_len])
  have HT1 : Aside0 (Calls Tryd.prog 102 #[.pointer (some ⟨g, 0, none⟩), .pointer (some ⟨b, off, none⟩)] w1.drew (WrPost B g L1 w1.drew)) := ⟨by
    rw [hL1]
    exact wtext_box B g L0 b (off) T cs s0 w1.drew HW1.out.drew HB1.out HTb.out.1 HBG.out.1 HC0.out (by have := HL.out; omega)⟩
  have HL1 := Aside0.mk hL1
  clear hL1
  have fb1 : w1.cell? ⟨fb, 0, none⟩ = some (.iface 60 (.pointer (some ⟨g, 0, none⟩))) := blk_cell HF1.out 0
  go_wp2
  go_still_tail 7, (by kernel_rfl)
  change wpList _ _ _ _ _ w1.drew
  go_wp2_with (go_at_call 102; ((with_reducible refine (HT1.out).mono ?_)))
  rintro e w2 ⟨rfl, hW, hb, hk⟩
  have HW2 := Aside0.mk hW
  have HX2 := Aside0.mk (HX1.out.drew.trans hb)
  have HB2 := Aside0.mk (kept_cell hk (show w1.drew.heap[b]? = _ from HB1.out) HTb.out.1 HBG.out.1)
  have HF2 := Aside0.mk (kept_cell hk (show w1.drew.heap[fb]? = _ from HF1.out) (by decide) HFB.out.1)
  have HK2 := Aside0.mk (HK1.out.trans (Kept2.of (b := b) (show Lib.OthersKept 5 (some g) w1 w2 from hk)))
  clear hW hb hk HT1 fb1
  obtain ⟨L2, hL2⟩ : ∃ L, L = L1 ++ (beN m1 2 ++ r1) := ⟨_, rfl⟩
  have E2 := Aside0.mk (show L2.length = L1.length + (2 + m1) by rw [hL2, List.length_append, List.length_append, beN_length, HR1.out.2.2])
  have HT2 : Aside0 (Calls Tryd.prog 55 #[.iface 60 (.pointer (some ⟨g, 0, none⟩)), .pointer (some ⟨b, off + 1, none⟩)] w2.drew (WRowPost B g L2 b (off + 1) m1 cs T w2.drew)) := ⟨by
    rw [hL2]
    exact wrow_any B g L1 b (off + 1) T cs A1 m1 c1 r1 w2.drew HW2.out.drew HB2.out HTb.out.1 HBG.out.1 HBG.out.2 HC1.out (Kd.C_drew (HR1.out.1 _ HX2.out)) HR1.out.2.1 (by have := HL.out; have := E1.out; omega)⟩
  have HL2 := Aside0.mk hL2
  clear hL2
  have fb2 : w2.cell? ⟨fb, 0, none⟩ = some (.iface 60 (.pointer (some ⟨g, 0, none⟩))) := blk_cell HF2.out 0
  go_wp2
  go_still_tail 4, (by kernel_rfl)
  change wpList _ _ _ _ _ w2.drew
  go_wp2_with (go_at_call 55; ((with_reducible refine (HT2.out).mono ?_)))
  rintro e w3 ⟨rfl, hW, hbb, ⟨Aq2, cq2, hbx⟩, hko⟩
  have HW3 := Aside0.mk hW
  have HX3 := Aside0.mk (HX2.out.drew.trans hbb)
  have HK3 := Aside0.mk (HK2.out.trans (show Kept2 g b w2 w3 from hko))
  have HF3 := Aside0.mk (hko fb _ (show w2.drew.heap[fb]? = _ from HF2.out) HFB.out.1 HFB.out.2 (fun c fz e => by cases e))
  obtain ⟨cs2, hcs2⟩ : ∃ c, c = cs.setIfInBounds (off + 1) (.slice Aq2 m1 cq2) := ⟨_, rfl⟩
  rw [← hcs2] at hbx
  have HB3 := Aside0.mk hbx
  have HC2 := Aside0.mk ((show cs2[off + 2]? = cs[off + 2]? by rw [hcs2]; exact set_ne (by omega)).trans HC2.out)
  have HC3 := Aside0.mk ((show cs2[off + 3]? = cs[off + 3]? by rw [hcs2]; exact set_ne (by omega)).trans HC3.out)
  have HC4 := Aside0.mk ((show cs2[off + 4]? = cs[off + 4]? by rw [hcs2]; exact set_ne (by omega)).trans HC4.out)
  have HC5 := Aside0.mk ((show cs2[off + 5]? = cs[off + 5]? by rw [hcs2]; exact set_ne (by omega)).trans HC5.out)
  have HS3 := Aside0.mk (show cs2.size = cs.size ∧ ∀ m, m < off ∨ off + 6 ≤ m → cs2[m]? = cs[m]? by
    rw [hcs2]
    exact ⟨Array.size_setIfInBounds, fun m hm => set_ne (by omega)⟩)
  clear hW hbb hbx hko hcs2 HT2 fb2
  obtain ⟨L3, hL3⟩ : ∃ L, L = L2 ++ (beN m2 2 ++ r2) := ⟨_, rfl⟩
  have E3 := Aside0.mk (show L3.length = L2.length + (2 + m2) by rw [hL3, List.length_append, List.length_append, beN_length, HR2.out.2.2])
  have HT3 : Aside0 (Calls Tryd.prog 55 #[.iface 60 (.pointer (some ⟨g, 0, none⟩)), .pointer (some ⟨b, off + 2, none⟩)] w3.drew (WRowPost B g L3 b (off + 2) m2 cs2 T w3.drew)) := ⟨by
    rw [hL3]
    exact wrow_any B g L2 b (off + 2) T cs2 A2 m2 c2 r2 w3.drew HW3.out.drew HB3.out HTb.out.1 HBG.out.1 HBG.out.2 HC2.out (Kd.C_drew (HR2.out.1 _ HX3.out)) HR2.out.2.1 (by have := HL.out; have := E1.out; have := E2.out; omega)⟩
  have HL3 := Aside0.mk hL3
  clear hL3
  have fb3 : w3.cell? ⟨fb, 0, none⟩ = some (.iface 60 (.pointer (some ⟨g, 0, none⟩))) := blk_cell HF3.out 0
  go_wp2
  go_still_tail 4, (by kernel_rfl)
  change wpList _ _ _ _ _ w3.drew
  go_wp2_with (go_at_call 55; ((with_reducible refine (HT3.out).mono ?_)))
  rintro e w4 ⟨rfl, hW, hbb, ⟨Aq3, cq3, hbx⟩, hko⟩
  have HW4 := Aside0.mk hW
  have HX4 := Aside0.mk (HX3.out.drew.trans hbb)
  have HK4 := Aside0.mk (HK3.out.trans (show Kept2 g b w3 w4 from hko))
  have HF4 := Aside0.mk (hko fb _ (show w3.drew.heap[fb]? = _ from HF3.out) HFB.out.1 HFB.out.2 (fun c fz e => by cases e))
  obtain ⟨cs3, hcs3⟩ : ∃ c, c = cs2.setIfInBounds (off + 2) (.slice Aq3 m2 cq3) := ⟨_, rfl⟩
  rw [← hcs3] at hbx
  have HB4 := Aside0.mk hbx
  have HC3 := Aside0.mk ((show cs3[off + 3]? = cs2[off + 3]? by rw [hcs3]; exact set_ne (by omega)).trans HC3.out)
  have HC4 := Aside0.mk ((show cs3[off + 4]? = cs2[off + 4]? by rw [hcs3]; exact set_ne (by omega)).trans HC4.out)
  have HC5 := Aside0.mk ((show cs3[off + 5]? = cs2[off + 5]? by rw [hcs3]; exact set_ne (by omega)).trans HC5.out)
  have HS4 := Aside0.mk (show cs3.size = cs.size ∧ ∀ m, m < off ∨ off + 6 ≤ m → cs3[m]? = cs[m]? by
    rw [hcs3]
    exact ⟨by rw [Array.size_setIfInBounds]; exact HS3.out.1, fun m hm => (set_ne (by omega)).trans (HS3.out.2 m hm)⟩)
  clear hW hbb hbx hko hcs3 HT3 fb3
  obtain ⟨L4, hL4⟩ : ∃ L, L = L3 ++ strB s3 := ⟨_, rfl⟩
  have E4 := Aside0.mk (show L4.length = L3.length + (2 + s3.size) by rw [hL4, List.length_append, strB_len])
  have HT4 : Aside0 (Calls Tryd.prog 102 #[.pointer (some ⟨g, 0, none⟩), .pointer (some ⟨b, off + 3, none⟩)] w4.drew (WrPost B g L4 w4.drew)) := ⟨by
    rw [hL4]
    exact wtext_box B g L3 b (off + 3) T cs3 s3 w4.drew HW4.out.drew HB4.out HTb.out.1 HBG.out.1 HC3.out (by have := HL.out; have := E1.out; have := E2.out; have := E3.out; omega)⟩
  have HL4 := Aside0.mk hL4
  clear hL4
  have fb4 : w4.cell? ⟨fb, 0, none⟩ = some (.iface 60 (.pointer (some ⟨g, 0, none⟩))) := blk_cell HF4.out 0
  go_wp2
  go_still_tail 7, (by kernel_rfl)
  change wpList _ _ _ _ _ w4.drew
  go_wp2_with (go_at_call 102; ((with_reducible refine (HT4.out).mono ?_)))
  rintro e w5 ⟨rfl, hW, hb, hk⟩
  have HW5 := Aside0.mk hW
  have HX5 := Aside0.mk (HX4.out.drew.trans hb)
  have HB5 := Aside0.mk (kept_cell hk (show w4.drew.heap[b]? = _ from HB4.out) HTb.out.1 HBG.out.1)
  have HF5 := Aside0.mk (kept_cell hk (show w4.drew.heap[fb]? = _ from HF4.out) (by decide) HFB.out.1)
  have HK5 := Aside0.mk (HK4.out.trans (Kept2.of (b := b) (show Lib.OthersKept 5 (some g) w4 w5 from hk)))
  have HS5 := HS4
  clear hW hb hk HT4 fb4
  obtain ⟨L5, hL5⟩ : ∃ L, L = L4 ++ beN n4 4 := ⟨_, rfl⟩
  have E5 := Aside0.mk (show L5.length = L4.length + (4) by rw [hL5, List.length_append, beN_length])
  have HT5 : Aside0 (Calls Tryd.prog 56 #[.iface 60 (.pointer (some ⟨g, 0, none⟩)), .pointer (some ⟨b, off + 4, none⟩), .int .i64 4] w5.drew (WrPost B g L5 w5.drew)) := ⟨by
    rw [hL5]
    exact wsmall_any B g L4 b (off + 4) T cs3 n4 4 w5.drew HW5.out.drew HB5.out HTb.out.1 HBG.out.1 HC4.out HN.out (put4 n4) (by have := HL.out; have := E1.out; have := E2.out; have := E3.out; have := E4.out; omega)⟩
  have HL5 := Aside0.mk hL5
  clear hL5
  have fb5 : w5.cell? ⟨fb, 0, none⟩ = some (.iface 60 (.pointer (some ⟨g, 0, none⟩))) := blk_cell HF5.out 0
  go_wp2
  go_still_tail 4, (by kernel_rfl)
  change wpList _ _ _ _ _ w5.drew
  go_wp2_with (go_at_call 56; ((with_reducible refine (HT5.out).mono ?_)))
  rintro e w6 ⟨rfl, hW, hb, hk⟩
  have HW6 := Aside0.mk hW
  have HX6 := Aside0.mk (HX5.out.drew.trans hb)
  have HB6 := Aside0.mk (kept_cell hk (show w5.drew.heap[b]? = _ from HB5.out) HTb.out.1 HBG.out.1)
  have HF6 := Aside0.mk (kept_cell hk (show w5.drew.heap[fb]? = _ from HF5.out) (by decide) HFB.out.1)
  have HK6 := Aside0.mk (HK5.out.trans (Kept2.of (b := b) (show Lib.OthersKept 5 (some g) w5 w6 from hk)))
  have HS6 := HS5
  clear hW hb hk HT5 fb5
  obtain ⟨L6, hL6⟩ : ∃ L, L = L5 ++ beN n5 8 := ⟨_, rfl⟩
  have E6 := Aside0.mk (show L6.length = L5.length + (8) by rw [hL6, List.length_append, beN_length])
  have HT6 : Aside0 (Calls Tryd.prog 101 #[.pointer (some ⟨g, 0, none⟩), .pointer (some ⟨b, off + 5, none⟩), .int .i64 8] w6.drew (WrPost B g L6 w6.drew)) := ⟨by
    rw [hL6]
    exact wnum_box B g L5 b (off + 5) T cs3 n5 8 w6.drew HW6.out.drew HB6.out HC5.out (put8 n5) (by have := HL.out; have := E1.out; have := E2.out; have := E3.out; have := E4.out; have := E5.out; omega)⟩
  have HL6 := Aside0.mk hL6
  clear hL6
  have fb6 : w6.cell? ⟨fb, 0, none⟩ = some (.iface 60 (.pointer (some ⟨g, 0, none⟩))) := blk_cell HF6.out 0
  go_wp2
  go_still_tail 7, (by kernel_rfl)
  change wpList _ _ _ _ _ w6.drew
  go_wp2_with (go_at_call 101; ((with_reducible refine (HT6.out).mono ?_)))
  rintro e w7 ⟨rfl, hW, hb, hk⟩
  have HW7 := Aside0.mk hW
  have HX7 := Aside0.mk (HX6.out.drew.trans hb)
  have HB7 := Aside0.mk (kept_cell hk (show w6.drew.heap[b]? = _ from HB6.out) HTb.out.1 HBG.out.1)
  have HF7 := Aside0.mk (kept_cell hk (show w6.drew.heap[fb]? = _ from HF6.out) (by decide) HFB.out.1)
  have HK7 := Aside0.mk (HK6.out.trans (Kept2.of (b := b) (show Lib.OthersKept 5 (some g) w6 w7 from hk)))
  have HS7 := HS6
  clear hW hb hk HT6 fb6
  go_wp2
  go_end0
  have e : L0 ++ userB s0 r1 r2 s3 n4 n5 = L6 := by rw [HL6.out, HL5.out, HL4.out, HL3.out, HL2.out, HL1.out, userB, HR1.out.2.2, HR2.out.2.2]; simp only [List.append_assoc]
  rw [e]
  exact ⟨rfl, HW7.out, HX7.out, HK7.out, _, HB7.out, HS7.out⟩
set_option maxHeartbeats 8000000 in
set_option maxRecDepth 100000 in
theorem wsess_any (B g : Nat) (L0 : List Int) (fb b off : Nat) (T : Nat) (cs : Array Value) (s0 s1 : ByteArray) (n2 n3 : Nat) (b4 : Bool) (w1 : World) (hW : WrAt B g L0 w1) (hf : w1.heap[fb]? = some (.cells #[.iface 60 (.pointer (some ⟨g, 0, none⟩))] 70 (0, 0))) (hfg : fb ≠ g) (hfb : fb ≠ b)
    (hb : w1.heap[b]? = some (.cells cs T (0, 0))) (hT : T ≠ 5) (hbg : b ≠ g) (hBb : B ≤ b) (hc0 : cs[off]? = some (.string s0)) (hc1 : cs[off + 1]? = some (.string s1)) (hc2 : cs[off + 2]? = some (.int .u64 (n2 : Int))) (hc3 : cs[off + 3]? = some (.int .u64 (n3 : Int))) (hc4 : cs[off + 4]? = some (.bool b4)) (hl : L0.length + s0.size + s1.size ≤ 800000) :
    Calls Tryd.prog 58 #[.pointer (some ⟨b, off, none⟩), .pointer (some ⟨fb, 0, none⟩)] w1 (ElemPost B g (L0 ++ sessB s0 s1 n2 n3 b4) b off 5 T cs w1) := by
  have q1 := wNilT
  have q2 := wMetT
  have q3 := wNilN
  have q4 := wMetN
  have hmf : ∀ (fn : Fn) (first cap : Array Value) (w : World), (Instr.makeFunc fn first cap).run Tryd.prog w = .ok (.func fn first cap) w := fun _ _ _ _ => rfl
  have HW1 := Aside0.mk hW
  have HF1 := Aside0.mk hf
  have HFB := Aside0.mk (And.intro hfg hfb)
  have HB1 := Aside0.mk hb
  have HTb := Aside0.mk (And.intro hT trivial)
  have HBG := Aside0.mk (And.intro hbg hBb)
  have HL := Aside0.mk hl
  have HX1 := Aside0.mk (Below.refl B w1)
  have HK1 := Aside0.mk (Kept2.refl g b w1)
  have HC0 := Aside0.mk hc0
  have HC1 := Aside0.mk hc1
  have HC2 := Aside0.mk hc2
  have HC3 := Aside0.mk hc3
  have HC4 := Aside0.mk hc4
  clear hW hf hfg hfb hb hT hbg hBb hl hc0 hc1 hc2 hc3 hc4
  go_enter Tryd.func58, Tryd.ntmps58
  obtain ⟨L1, hL1⟩ : ∃ L, L = L0 ++ strB s0 := ⟨_, rfl⟩
  have E1 := Aside0.mk (show L1.length = L0.length + (2 + s0.size) by rw [hL1, List.length_append, strB_len])
  have HT1 : Aside0 (Calls Tryd.prog 102 #[.pointer (some ⟨g, 0, none⟩), .pointer (some ⟨b, off, none⟩)] w1.drew (WrPost B g L1 w1.drew)) := ⟨by
    rw [hL1]
    exact wtext_box B g L0 b (off) T cs s0 w1.drew HW1.out.drew HB1.out HTb.out.1 HBG.out.1 HC0.out (by have := HL.out; omega)⟩
  have HL1 := Aside0.mk hL1
  clear hL1
  have fb1 : w1.cell? ⟨fb, 0, none⟩ = some (.iface 60 (.pointer (some ⟨g, 0, none⟩))) := blk_cell HF1.out 0
  go_wp2
  go_still_tail 7, (by kernel_rfl)
  change wpList _ _ _ _ _ w1.drew
  go_wp2_with (go_at_call 102; ((with_reducible refine (HT1.out).mono ?_)))
  rintro e w2 ⟨rfl, hW, hb, hk⟩
  have HW2 := Aside0.mk hW
  have HX2 := Aside0.mk (HX1.out.drew.trans hb)
  have HB2 := Aside0.mk (kept_cell hk (show w1.drew.heap[b]? = _ from HB1.out) HTb.out.1 HBG.out.1)
  have HF2 := Aside0.mk (kept_cell hk (show w1.drew.heap[fb]? = _ from HF1.out) (by decide) HFB.out.1)
  have HK2 := Aside0.mk (HK1.out.trans (Kept2.of (b := b) (show Lib.OthersKept 5 (some g) w1 w2 from hk)))
  clear hW hb hk HT1 fb1
  obtain ⟨L2, hL2⟩ : ∃ L, L = L1 ++ strB s1 := ⟨_, rfl⟩
  have E2 := Aside0.mk (show L2.length = L1.length + (2 + s1.size) by rw [hL2, List.length_append, strB_len])
  have HT2 : Aside0 (Calls Tryd.prog 102 #[.pointer (some ⟨g, 0, none⟩), .pointer (some ⟨b, off + 1, none⟩)] w2.drew (WrPost B g L2 w2.drew)) := ⟨by
    rw [hL2]
    exact wtext_box B g L1 b (off + 1) T cs s1 w2.drew HW2.out.drew HB2.out HTb.out.1 HBG.out.1 HC1.out (by have := HL.out; have := E1.out; omega)⟩
  have HL2 := Aside0.mk hL2
  clear hL2
  have fb2 : w2.cell? ⟨fb, 0, none⟩ = some (.iface 60 (.pointer (some ⟨g, 0, none⟩))) := blk_cell HF2.out 0
  go_wp2
  go_still_tail 7, (by kernel_rfl)
  change wpList _ _ _ _ _ w2.drew
  go_wp2_with (go_at_call 102; ((with_reducible refine (HT2.out).mono ?_)))
  rintro e w3 ⟨rfl, hW, hb, hk⟩
  have HW3 := Aside0.mk hW
  have HX3 := Aside0.mk (HX2.out.drew.trans hb)
  have HB3 := Aside0.mk (kept_cell hk (show w2.drew.heap[b]? = _ from HB2.out) HTb.out.1 HBG.out.1)
  have HF3 := Aside0.mk (kept_cell hk (show w2.drew.heap[fb]? = _ from HF2.out) (by decide) HFB.out.1)
  have HK3 := Aside0.mk (HK2.out.trans (Kept2.of (b := b) (show Lib.OthersKept 5 (some g) w2 w3 from hk)))
  clear hW hb hk HT2 fb2
  obtain ⟨L3, hL3⟩ : ∃ L, L = L2 ++ beN n2 8 := ⟨_, rfl⟩
  have E3 := Aside0.mk (show L3.length = L2.length + (8) by rw [hL3, List.length_append, beN_length])
  have HT3 : Aside0 (Calls Tryd.prog 101 #[.pointer (some ⟨g, 0, none⟩), .pointer (some ⟨b, off + 2, none⟩), .int .i64 8] w3.drew (WrPost B g L3 w3.drew)) := ⟨by
    rw [hL3]
    exact wnum_box B g L2 b (off + 2) T cs n2 8 w3.drew HW3.out.drew HB3.out HC2.out (put8 n2) (by have := HL.out; have := E1.out; have := E2.out; omega)⟩
  have HL3 := Aside0.mk hL3
  clear hL3
  have fb3 : w3.cell? ⟨fb, 0, none⟩ = some (.iface 60 (.pointer (some ⟨g, 0, none⟩))) := blk_cell HF3.out 0
  go_wp2
  go_still_tail 7, (by kernel_rfl)
  change wpList _ _ _ _ _ w3.drew
  go_wp2_with (go_at_call 101; ((with_reducible refine (HT3.out).mono ?_)))
  rintro e w4 ⟨rfl, hW, hb, hk⟩
  have HW4 := Aside0.mk hW
  have HX4 := Aside0.mk (HX3.out.drew.trans hb)
  have HB4 := Aside0.mk (kept_cell hk (show w3.drew.heap[b]? = _ from HB3.out) HTb.out.1 HBG.out.1)
  have HF4 := Aside0.mk (kept_cell hk (show w3.drew.heap[fb]? = _ from HF3.out) (by decide) HFB.out.1)
  have HK4 := Aside0.mk (HK3.out.trans (Kept2.of (b := b) (show Lib.OthersKept 5 (some g) w3 w4 from hk)))
  clear hW hb hk HT3 fb3
  obtain ⟨L4, hL4⟩ : ∃ L, L = L3 ++ beN n3 8 := ⟨_, rfl⟩
  have E4 := Aside0.mk (show L4.length = L3.length + (8) by rw [hL4, List.length_append, beN_length])
  have HT4 : Aside0 (Calls Tryd.prog 101 #[.pointer (some ⟨g, 0, none⟩), .pointer (some ⟨b, off + 3, none⟩), .int .i64 8] w4.drew (WrPost B g L4 w4.drew)) := ⟨by
    rw [hL4]
    exact wnum_box B g L3 b (off + 3) T cs n3 8 w4.drew HW4.out.drew HB4.out HC3.out (put8 n3) (by have := HL.out; have := E1.out; have := E2.out; have := E3.out; omega)⟩
  have HL4 := Aside0.mk hL4
  clear hL4
  have fb4 : w4.cell? ⟨fb, 0, none⟩ = some (.iface 60 (.pointer (some ⟨g, 0, none⟩))) := blk_cell HF4.out 0
  go_wp2
  go_still_tail 7, (by kernel_rfl)
  change wpList _ _ _ _ _ w4.drew
  go_wp2_with (go_at_call 101; ((with_reducible refine (HT4.out).mono ?_)))
  rintro e w5 ⟨rfl, hW, hb, hk⟩
  have HW5 := Aside0.mk hW
  have HX5 := Aside0.mk (HX4.out.drew.trans hb)
  have HB5 := Aside0.mk (kept_cell hk (show w4.drew.heap[b]? = _ from HB4.out) HTb.out.1 HBG.out.1)
  have HF5 := Aside0.mk (kept_cell hk (show w4.drew.heap[fb]? = _ from HF4.out) (by decide) HFB.out.1)
  have HK5 := Aside0.mk (HK4.out.trans (Kept2.of (b := b) (show Lib.OthersKept 5 (some g) w4 w5 from hk)))
  clear hW hb hk HT4 fb4
  cases b4
  case true =>
    have hal := below_alloc (Below.refl w5.heap.size w5) (.cells #[.int .i64 1] 3)
    have hnew := heap_alloc_new w5 (.cells #[.int .i64 1] 3)
    have hbb := (hal.block b (Array.getElem?_eq_some_iff.1 HB5.out).1).trans HB5.out
    have hdg : w5.heap.size ≠ g := by
      obtain ⟨-, v, hg, -⟩ := HW5.out
      have := (Array.getElem?_eq_some_iff.1 hg).1
      omega
    have HT5 : Aside0 (Calls Tryd.prog 56 #[.iface 60 (.pointer (some ⟨g, 0, none⟩)), .pointer (some ⟨w5.heap.size, 0, none⟩), .int .i64 1] (w5.alloc (.cells #[.int .i64 1] 3)) (WrPost B g (L4 ++ beN 1 1) (w5.alloc (.cells #[.int .i64 1] 3)))) := ⟨wsmall_any B g L4 w5.heap.size 0 3 _ 1 1 _ (HW5.out.below hal) hnew (by decide) hdg rfl (by decide) (put1 1) (by have := HL.out; have := E1.out; have := E2.out; have := E3.out; have := E4.out; omega)⟩
    have a4 : w5.cell? ⟨b, off + 4, none⟩ = some (.bool true) := by rw [cell_of_row w5 b (off + 4) cs T (0, 0) HB5.out]; exact HC4.out
    have a4' : (w5.alloc (.cells #[.int .i64 0] 3)).cell? ⟨b, off + 4, none⟩ = some (.bool true) := pw_cell_below (below_alloc (Below.refl w5.heap.size w5) (.cells #[.int .i64 0] 3)) a4
    have fb5 : w5.cell? ⟨fb, 0, none⟩ = some (.iface 60 (.pointer (some ⟨g, 0, none⟩))) := blk_cell HF5.out 0
    have fb6 : (w5.alloc (.cells #[.int .i64 1] 3)).cell? ⟨fb, 0, none⟩ = some (.iface 60 (.pointer (some ⟨g, 0, none⟩))) := pw_cell_below hal fb5
    have HAL := Aside0.mk hal
    have HNEW := Aside0.mk hnew
    have HBB := Aside0.mk hbb
    have HDG := Aside0.mk hdg
    clear hal hnew hbb hdg
    go_wp2_with (go_at_call 56; ((with_reducible refine (HT5.out).mono ?_)))
    rintro e w6 ⟨rfl, hW, hbl, hk⟩
    have hbx := kept_cell hk HBB.out HTb.out.1 HBG.out.1
    have n6 : w6.cell? ⟨w5.heap.size, 0, none⟩ = some (.int .i64 1) := blk_cell (kept_cell hk HNEW.out (by decide) HDG.out) 0
    have a6 : w6.cell? ⟨b, off + 4, none⟩ = some (.bool true) := by rw [cell_of_row w6 b (off + 4) cs T (0, 0) hbx]; exact HC4.out
    have f6 : w6.frozen? ⟨b, off + 4, none⟩ = false := by simp [World.frozen?, hbx]
    have HW6 := Aside0.mk hW
    have HX6 := Aside0.mk (HX5.out.trans ((HAL.out.mono (by have := (Array.getElem?_eq_some_iff.1 HB5.out).1; have := HBG.out.2; omega)).trans hbl))
    have HK6 := Aside0.mk (HK5.out.trans (Kept2.of (b := b) ((kept_below (e := 5) (b := some g) HAL.out).trans hk)))
    have HB6 := Aside0.mk hbx
    have A6 := Aside0.mk a6
    clear hW hbl hk hbx HT5 fb5 fb6
    go_wp2
    go_end0
    rw [setCell_id A6.out]
    have e : L0 ++ sessB s0 s1 n2 n3 true = L4 ++ beN 1 1 := by rw [HL4.out, HL3.out, HL2.out, HL1.out, sessB]; simp only [List.append_assoc, if_true, Bool.false_eq_true, if_false]
    rw [e]
    exact ⟨rfl, HW6.out, HX6.out, HK6.out, _, HB6.out, rfl, fun _ _ => rfl⟩

  case false =>
    have hal := below_alloc (Below.refl w5.heap.size w5) (.cells #[.int .i64 0] 3)
    have hnew := heap_alloc_new w5 (.cells #[.int .i64 0] 3)
    have hbb := (hal.block b (Array.getElem?_eq_some_iff.1 HB5.out).1).trans HB5.out
    have hdg : w5.heap.size ≠ g := by
      obtain ⟨-, v, hg, -⟩ := HW5.out
      have := (Array.getElem?_eq_some_iff.1 hg).1
      omega
    have HT5 : Aside0 (Calls Tryd.prog 56 #[.iface 60 (.pointer (some ⟨g, 0, none⟩)), .pointer (some ⟨w5.heap.size, 0, none⟩), .int .i64 1] (w5.alloc (.cells #[.int .i64 0] 3)) (WrPost B g (L4 ++ beN 0 1) (w5.alloc (.cells #[.int .i64 0] 3)))) := ⟨wsmall_any B g L4 w5.heap.size 0 3 _ 0 1 _ (HW5.out.below hal) hnew (by decide) hdg rfl (by decide) (put1 0) (by have := HL.out; have := E1.out; have := E2.out; have := E3.out; have := E4.out; omega)⟩
    have a4 : w5.cell? ⟨b, off + 4, none⟩ = some (.bool false) := by rw [cell_of_row w5 b (off + 4) cs T (0, 0) HB5.out]; exact HC4.out
    have a4' : (w5.alloc (.cells #[.int .i64 0] 3)).cell? ⟨b, off + 4, none⟩ = some (.bool false) := pw_cell_below (below_alloc (Below.refl w5.heap.size w5) (.cells #[.int .i64 0] 3)) a4
    have fb5 : w5.cell? ⟨fb, 0, none⟩ = some (.iface 60 (.pointer (some ⟨g, 0, none⟩))) := blk_cell HF5.out 0
    have fb6 : (w5.alloc (.cells #[.int .i64 0] 3)).cell? ⟨fb, 0, none⟩ = some (.iface 60 (.pointer (some ⟨g, 0, none⟩))) := pw_cell_below hal fb5
    have HAL := Aside0.mk hal
    have HNEW := Aside0.mk hnew
    have HBB := Aside0.mk hbb
    have HDG := Aside0.mk hdg
    clear hal hnew hbb hdg
    go_wp2_with (go_at_call 56; ((with_reducible refine (HT5.out).mono ?_)))
    rintro e w6 ⟨rfl, hW, hbl, hk⟩
    have hbx := kept_cell hk HBB.out HTb.out.1 HBG.out.1
    have n6 : w6.cell? ⟨w5.heap.size, 0, none⟩ = some (.int .i64 0) := blk_cell (kept_cell hk HNEW.out (by decide) HDG.out) 0
    have a6 : w6.cell? ⟨b, off + 4, none⟩ = some (.bool false) := by rw [cell_of_row w6 b (off + 4) cs T (0, 0) hbx]; exact HC4.out
    have f6 : w6.frozen? ⟨b, off + 4, none⟩ = false := by simp [World.frozen?, hbx]
    have HW6 := Aside0.mk hW
    have HX6 := Aside0.mk (HX5.out.trans ((HAL.out.mono (by have := (Array.getElem?_eq_some_iff.1 HB5.out).1; have := HBG.out.2; omega)).trans hbl))
    have HK6 := Aside0.mk (HK5.out.trans (Kept2.of (b := b) ((kept_below (e := 5) (b := some g) HAL.out).trans hk)))
    have HB6 := Aside0.mk hbx
    have A6 := Aside0.mk a6
    clear hW hbl hk hbx HT5 fb5 fb6
    go_wp2
    go_end0
    rw [setCell_id A6.out]
    have e : L0 ++ sessB s0 s1 n2 n3 false = L4 ++ beN 0 1 := by rw [HL4.out, HL3.out, HL2.out, HL1.out, sessB]; simp only [List.append_assoc, if_true, Bool.false_eq_true, if_false]
    rw [e]
    exact ⟨rfl, HW6.out, HX6.out, HK6.out, _, HB6.out, rfl, fun _ _ => rfl⟩
end Go.Proofs.YtnlhomgclplnhaaDoor.E


/- The writer of package code: lists of users and of sessions. -/
namespace Go.Proofs.YtnlhomgclplnhaaDoor.E
open Go.RowKit Go.Proofs.YtnlhomgclplnhaaDoorW.PrintWords Go.Proofs.YtnlhomgclplnhaaDoorW.PrintLast Go.Proofs.YtnlhomgclplnhaaDoorW.PrintMore Go.Proofs.YtnlhomgclplnhaaDoor.Pr
set_option linter.unusedVariables false
set_option linter.unusedSimpArgs false
attribute [local go_sem] opVal opUpon
def UserB (u : S33) : List Int := userB u.f0 u.f1 u.f2 u.f3 u.f4.toNat u.f5.toNat
def SessB (u : S31) : List Int := sessB u.f0 u.f1 u.f2.toNat u.f3.toNat u.f4
/-- A user's six cells, a session's five. -/
def UserAt (B : Nat) (X : World) (cs : Array Value) (off : Nat) (u : S33) : Prop :=
  ∃ A1 c1 A2 c2, cs[off]? = some (.string u.f0) ∧ cs[off + 1]? = some (.slice A1 u.f1.length c1) ∧ cs[off + 2]? = some (.slice A2 u.f2.length c2) ∧ cs[off + 3]? = some (.string u.f3) ∧ cs[off + 4]? = some (.int .i64 u.f4) ∧ cs[off + 5]? = some (.int .u64 u.f5) ∧
    (∀ Y, Below B X Y → Kd.C (Kd.int .u8) Y A1 u.f1.length u.f1) ∧ (∀ Y, Below B X Y → Kd.C (Kd.int .u8) Y A2 u.f2.length u.f2) ∧ ((∀ x ∈ u.f1, 0 ≤ x ∧ x ≤ 255) ∧ (∀ x ∈ u.f2, 0 ≤ x ∧ x ≤ 255)) ∧ 0 ≤ u.f4 ∧ u.f4 ≤ 1000000 ∧ 0 ≤ u.f5
def SessAt (B : Nat) (X : World) (cs : Array Value) (off : Nat) (u : S31) : Prop :=
  cs[off]? = some (.string u.f0) ∧ cs[off + 1]? = some (.string u.f1) ∧ cs[off + 2]? = some (.int .u64 u.f2) ∧ cs[off + 3]? = some (.int .u64 u.f3) ∧ cs[off + 4]? = some (.bool u.f4) ∧ 0 ≤ u.f2 ∧ 0 ≤ u.f3
/-- A list between two rounds. -/
structure ListInv (B g b nf : Nat) (T : Nat) (cs : Array Value) (X : World) (L : List Int) (i : Nat) (wr : World) : Prop where
  laid : WrAt B g L wr
  below : Below B X wr
  kept : Kept2 g b X wr
  cells : ∃ cs' : Array Value, wr.heap[b]? = some (.cells cs' T (0, 0)) ∧ cs'.size = cs.size ∧ ∀ m, nf * i ≤ m → cs'[m]? = cs[m]?
def ListPost (B g : Nat) (b : Nat) (L : List Int) (X : World) (e : Ending) (w' : World) : Prop := e = .returned (.tuple #[]) ∧ WrAt B g L w' ∧ Below B X w' ∧ Kept2 g b X w'

theorem wlistU_elem (B g : Nat) (L : List Int) (fb b : Nat) (cs cs0 : Array Value) (u : S33) (i : Nat) (X w1 : World) (hW : WrAt B g L w1) (hf : w1.heap[fb]? = some (.cells #[.iface 60 (.pointer (some ⟨g, 0, none⟩))] 70 (0, 0))) (hfg : fb ≠ g) (hfb : fb ≠ b)
    (hb : w1.heap[b]? = some (.cells cs 33 (0, 0))) (hbg : b ≠ g) (hBb : B ≤ b) (hX : Below B X w1) (hu : UserAt B X cs0 (6 * i) u) (hcs : ∀ m, 6 * i ≤ m → cs[m]? = cs0[m]?) (hl : L.length + (UserB u).length ≤ 800000) :
    Calls Tryd.prog 54 #[.pointer (some ⟨b, i * 6, none⟩), .pointer (some ⟨fb, 0, none⟩)] w1 (ElemPost B g (L ++ UserB u) b (6 * i) 6 33 cs w1) := by
  rw [Nat.mul_comm i 6]
  obtain ⟨A1, c1, A2, c2, h0, h1, h2, h3, h4, h5, hC1, hC2, ⟨hb1, hb2⟩, h40, h41, h50⟩ := hu
  have e4 : ((u.f4.toNat : Nat) : Int) = u.f4 := by omega
  have e5 : ((u.f5.toNat : Nat) : Int) = u.f5 := by omega
  have hlen := userB_len u.f0 u.f1 u.f2 u.f3 u.f4.toNat u.f5.toNat
  unfold UserB at hl
  exact wuser_any B g L fb b (6 * i) 33 cs u.f0 A1 _ c1 u.f1 A2 _ c2 u.f2 u.f3 u.f4.toNat u.f5.toNat w1 hW hf hfg hfb hb (by decide) hbg hBb ((hcs _ (by omega)).trans h0) ((hcs _ (by omega)).trans h1) ((hcs _ (by omega)).trans h2) ((hcs _ (by omega)).trans h3)
    (by rw [hcs _ (by omega), h4, e4]) (by rw [hcs _ (by omega), h5, e5]) (fun Y hY => hC1 Y (hX.trans hY)) hb1 (fun Y hY => hC2 Y (hX.trans hY)) hb2 (by omega) (by omega)

set_option maxHeartbeats 8000000 in
set_option maxRecDepth 100000 in
theorem wlistU (B g : Nat) (L0 : List Int) (fb sb off ub c : Nat) (ss : Array Value) (cs : Array Value) (us : List S33) (A : Option Addr) (X : World) (hW : WrAt B g L0 X) (hf : X.heap[fb]? = some (.cells #[.iface 60 (.pointer (some ⟨g, 0, none⟩))] 70 (0, 0))) (hfg : fb ≠ g) (hfu : fb ≠ ub)
    (hs : X.heap[sb]? = some (.cells ss 27 (0, 0))) (hsg : sb ≠ g) (hsu : sb ≠ ub) (hsc : ss[off]? = some (.slice A us.length c)) (hA : 0 < us.length → A = some ⟨ub, 0, none⟩ ∧ X.heap[ub]? = some (.cells cs 33 (0, 0)) ∧ us.length ≤ c) (hug : ub ≠ g) (hBu : B ≤ ub)
    (hu : ∀ i (h : i < us.length), UserAt B X cs (6 * i) us[i]) (hl : L0.length + 2 + (us.flatMap UserB).length ≤ 700000) (hn : us.length ≤ 1000000) :
    Calls Tryd.prog 53 #[.iface 60 (.pointer (some ⟨g, 0, none⟩)), .pointer (some ⟨sb, off, none⟩), .func (.func 54) #[] #[.pointer (some ⟨fb, 0, none⟩)]] X (ListPost B g ub (L0 ++ beN us.length 2 ++ us.flatMap UserB) X) := by
  obtain ⟨n, hnn⟩ : ∃ n, n = us.length := ⟨_, rfl⟩
  have hal := below_alloc (Below.refl X.heap.size X) (.cells #[.int .i64 (n : Int)] 3)
  have hnew := heap_alloc_new X (.cells #[.int .i64 (n : Int)] 3)
  have hg0 : g < X.heap.size := by obtain ⟨-, v, hg, -⟩ := hW; exact (Array.getElem?_eq_some_iff.1 hg).1
  have HT0 : Aside0 (Calls Tryd.prog 56 #[.iface 60 (.pointer (some ⟨g, 0, none⟩)), .pointer (some ⟨X.heap.size, 0, none⟩), .int .i64 2] (X.alloc (.cells #[.int .i64 (n : Int)] 3)) (WrPost B g (L0 ++ beN n 2) (X.alloc (.cells #[.int .i64 (n : Int)] 3)))) := ⟨wsmall_any B g L0 X.heap.size 0 3 _ n 2 _ (hW.below hal) hnew (by decide) (by omega) rfl (by omega) (put2 n) (by omega)⟩
  have s0 : X.cell? ⟨sb, off, none⟩ = some (.slice A n c) := by rw [cell_of_row X sb off ss 27 (0, 0) hs, hnn]; exact hsc
  have HN := Aside0.mk hnn
  have HNB := Aside0.mk (show n ≤ 1000000 by omega)
  have HB0 := Aside0.mk hW.1
  have HG0 := Aside0.mk hg0
  have HF := Aside0.mk (And.intro hf (And.intro hfg hfu))
  have HS := Aside0.mk (And.intro hs (And.intro hsg hsu))
  have HSC := Aside0.mk hsc
  have HAA := Aside0.mk hA
  have HU := Aside0.mk (And.intro hug hBu)
  have HUS := Aside0.mk hu
  have HL := Aside0.mk hl
  have HAL := Aside0.mk hal
  have HNEW := Aside0.mk hnew
  have hn9 : (n : Int) ≤ 1000000 := by omega
  clear hW hf hfg hfu hs hsg hsu hsc hA hug hBu hu hl hn hnn hal hnew hg0
  go_enter Tryd.func53, Tryd.ntmps53
  go_wp2_with (go_at_call 56; ((with_reducible refine (HT0.out).mono ?_)))
  rintro e w1 ⟨rfl, hW1, hb1, hk1⟩
  have n1 : w1.cell? ⟨X.heap.size, 0, none⟩ = some (.int .i64 (n : Int)) := blk_cell (kept_cell hk1 HNEW.out (by decide) (by have := HG0.out; omega)) 0
  have hkX : Lib.OthersKept 5 (some g) X w1 := (kept_below (e := 5) (b := some g) HAL.out).trans hk1
  have hbX : Below B X w1 := (HAL.out.mono (Nat.le_trans HB0.out (Nat.le_of_lt HG0.out))).trans hb1
  have HI1 : Aside0 (0 < n → ListInv B g ub 6 33 cs X (L0 ++ beN n 2 ++ (us.take 0).flatMap UserB) 0 w1) := ⟨fun hp => ⟨by rw [List.take_zero, List.flatMap_nil, List.append_nil]; exact hW1, hbX, Kept2.of hkX, cs, kept_cell hkX (HAA.out (by rw [← HN.out]; exact hp)).2.1 (by decide) HU.out.1, rfl, fun _ _ => rfl⟩⟩
  have HW1 := Aside0.mk hW1
  have HX1 := Aside0.mk hbX
  have HK1 := Aside0.mk hkX
  clear hW1 hb1 hk1 hkX hbX HT0
  by_cases h0 : n = 0
  · have hz : ¬ (0 : Int) < (n : Int) := by omega
    have hzd : decide ((0 : Int) < (n : Int)) = false := decide_eq_false hz
    have H0 := Aside0.mk h0
    clear h0
    go_wp2
    go_loopw [16] (fun v16 wr => v16 = .int .i64 0 ∧ Aside0 (wr = w1)) (fun _ _ => 0)
    case atStart => exact ⟨rfl, ⟨rfl⟩⟩
    case round =>
      obtain ⟨rfl, HQ⟩ := hrel
      go_wp2
      go_end0
      have hus : us = [] := List.eq_nil_of_length_eq_zero (by rw [← HN.out]; exact H0.out)
      rw [HQ.out]
      refine ⟨rfl, ?_, HX1.out, Kept2.of HK1.out⟩
      rw [hus, List.flatMap_nil, List.append_nil, List.length_nil, ← H0.out]
      exact HW1.out
  have hp : 0 < n := by omega
  obtain ⟨rfl, hub, hnc⟩ := HAA.out (by rw [← HN.out]; exact hp)
  have HUB := Aside0.mk hub
  have hnc' : n ≤ c := by rw [HN.out]; exact hnc
  have HP := Aside0.mk hp
  clear hub hnc h0
  go_wp2
  go_loopw [16] (fun v16 wr => ∃ (i : Nat), i ≤ n ∧ v16 = .int .i64 (i : Int) ∧ Aside0 (ListInv B g ub 6 33 cs X (L0 ++ beN n 2 ++ (us.take i).flatMap UserB) i wr)) (fun v16 _ => n - (intOf v16).toNat)
  case atStart => exact ⟨0, Nat.zero_le _, rfl, ⟨HI1.out HP.out⟩⟩
  case round =>
    obtain ⟨i, hi, rfl, HI⟩ := hrel
    have hss := HI.out.kept.cell HS.out.1 (by decide) HS.out.2.1 HS.out.2.2
    have s1 : wr.cell? ⟨sb, off, none⟩ = some (.slice (some ⟨ub, 0, none⟩) n c) := by rw [cell_of_row wr sb off ss 27 (0, 0) hss, HN.out]; exact HSC.out
    clear hss
    by_cases hlt : i < n
    · have z1 : (i : Int) < (n : Int) := by omega
      have z1d : decide ((i : Int) < (n : Int)) = true := decide_eq_true z1
      have z2 : ((i : Int) == (n : Int)) = false := by rw [beq_eq_false_iff_ne]; omega
      have HLT := Aside0.mk hlt
      obtain ⟨cs', hcs1, hcs2, hcs3⟩ := HI.out.cells
      have hil : i < us.length := by rw [← HN.out]; exact hlt
      have htk : (us.take (i + 1)).flatMap UserB = (us.take i).flatMap UserB ++ UserB us[i] := by
        rw [List.take_succ_eq_append_getElem hil, List.flatMap_append]
        simp
      have hle : ((us.take (i + 1)).flatMap UserB).length ≤ (us.flatMap UserB).length := by
        conv => rhs; rw [← List.take_append_drop (i + 1) us, List.flatMap_append, List.length_append]
        omega
      have hel := wlistU_elem B g _ fb ub cs' cs us[i] i X wr HI.out.laid (HI.out.kept.cell HF.out.1 (by decide) HF.out.2.1 HF.out.2.2) HF.out.2.1 HF.out.2.2 hcs1 HU.out.1 HU.out.2 HI.out.below (HUS.out i hil) hcs3 (by
        have := HL.out
        rw [htk, List.length_append] at hle
        rw [List.length_append, List.length_append, beN_length]
        omega)
      rw [List.append_assoc (L0 ++ beN n 2), ← htk] at hel
      have HEL := Aside0.mk hel
      have HC2 := Aside0.mk (And.intro hcs2 hcs3)
      clear hlt hcs1 hcs2 hcs3 hil htk hle hel
      go_wp2_with (go_at_call 54; ((with_reducible refine (HEL.out).mono ?_)))
      rintro e w2 ⟨rfl, hW2, hB2, hK2, cs2, hc1, hc2, hc3⟩
      have HI2 : Aside0 (ListInv B g ub 6 33 cs X (L0 ++ beN n 2 ++ (us.take (i + 1)).flatMap UserB) (i + 1) w2) := ⟨⟨hW2, HI.out.below.trans hB2, HI.out.kept.trans hK2, cs2, hc1, hc2.trans HC2.out.1, fun m hm => (hc3 m (.inr (by omega))).trans (HC2.out.2 m (by omega))⟩⟩
      clear hW2 hB2 hK2 hc1 hc2 hc3
      go_wp2
      go_roundw
      case rel => exact ⟨i + 1, HLT.out, by go_num, HI2⟩
      case measure => have := HLT.out; simp [intOf]; omega
    · have z1 : ¬ (i : Int) < (n : Int) := by omega
      have z1d : decide ((i : Int) < (n : Int)) = false := decide_eq_false z1
      obtain rfl : i = n := by omega
      have HTK : Aside0 (us.take i = us) := ⟨List.take_of_length_le (by rw [← HN.out]; exact Nat.le_refl _)⟩
      clear hlt
      go_wp2
      go_end0
      refine ⟨rfl, ?_, HI.out.below, HI.out.kept⟩
      have h := HI.out.laid
      rw [HTK.out] at h
      rw [← HN.out]
      simpa only [List.append_assoc] using h
theorem wlistS_elem (B g : Nat) (L : List Int) (fb b : Nat) (cs cs0 : Array Value) (u : S31) (i : Nat) (X w1 : World) (hW : WrAt B g L w1) (hf : w1.heap[fb]? = some (.cells #[.iface 60 (.pointer (some ⟨g, 0, none⟩))] 70 (0, 0))) (hfg : fb ≠ g) (hfb : fb ≠ b)
    (hb : w1.heap[b]? = some (.cells cs 31 (0, 0))) (hbg : b ≠ g) (hBb : B ≤ b) (hX : Below B X w1) (hu : SessAt B X cs0 (5 * i) u) (hcs : ∀ m, 5 * i ≤ m → cs[m]? = cs0[m]?) (hl : L.length + (SessB u).length ≤ 800000) :
    Calls Tryd.prog 58 #[.pointer (some ⟨b, i * 5, none⟩), .pointer (some ⟨fb, 0, none⟩)] w1 (ElemPost B g (L ++ SessB u) b (5 * i) 5 31 cs w1) := by
  rw [Nat.mul_comm i 5]
  obtain ⟨h0, h1, h2, h3, h4, h20, h30⟩ := hu
  have e2 : ((u.f2.toNat : Nat) : Int) = u.f2 := by omega
  have e3 : ((u.f3.toNat : Nat) : Int) = u.f3 := by omega
  have hlen := sessB_len u.f0 u.f1 u.f2.toNat u.f3.toNat u.f4
  unfold SessB at hl
  exact wsess_any B g L fb b (5 * i) 31 cs u.f0 u.f1 u.f2.toNat u.f3.toNat u.f4 w1 hW hf hfg hfb hb (by decide) hbg hBb ((hcs _ (by omega)).trans h0) ((hcs _ (by omega)).trans h1) (by rw [hcs _ (by omega), h2, e2]) (by rw [hcs _ (by omega), h3, e3]) ((hcs _ (by omega)).trans h4) (by omega)

set_option maxHeartbeats 8000000 in
set_option maxRecDepth 100000 in
theorem wlistS (B g : Nat) (L0 : List Int) (fb sb off ub c : Nat) (ss : Array Value) (cs : Array Value) (us : List S31) (A : Option Addr) (X : World) (hW : WrAt B g L0 X) (hf : X.heap[fb]? = some (.cells #[.iface 60 (.pointer (some ⟨g, 0, none⟩))] 70 (0, 0))) (hfg : fb ≠ g) (hfu : fb ≠ ub)
    (hs : X.heap[sb]? = some (.cells ss 27 (0, 0))) (hsg : sb ≠ g) (hsu : sb ≠ ub) (hsc : ss[off]? = some (.slice A us.length c)) (hA : 0 < us.length → A = some ⟨ub, 0, none⟩ ∧ X.heap[ub]? = some (.cells cs 31 (0, 0)) ∧ us.length ≤ c) (hug : ub ≠ g) (hBu : B ≤ ub)
    (hu : ∀ i (h : i < us.length), SessAt B X cs (5 * i) us[i]) (hl : L0.length + 2 + (us.flatMap SessB).length ≤ 700000) (hn : us.length ≤ 1000000) :
    Calls Tryd.prog 57 #[.iface 60 (.pointer (some ⟨g, 0, none⟩)), .pointer (some ⟨sb, off, none⟩), .func (.func 58) #[] #[.pointer (some ⟨fb, 0, none⟩)]] X (ListPost B g ub (L0 ++ beN us.length 2 ++ us.flatMap SessB) X) := by
  obtain ⟨n, hnn⟩ : ∃ n, n = us.length := ⟨_, rfl⟩
  have hal := below_alloc (Below.refl X.heap.size X) (.cells #[.int .i64 (n : Int)] 3)
  have hnew := heap_alloc_new X (.cells #[.int .i64 (n : Int)] 3)
  have hg0 : g < X.heap.size := by obtain ⟨-, v, hg, -⟩ := hW; exact (Array.getElem?_eq_some_iff.1 hg).1
  have HT0 : Aside0 (Calls Tryd.prog 56 #[.iface 60 (.pointer (some ⟨g, 0, none⟩)), .pointer (some ⟨X.heap.size, 0, none⟩), .int .i64 2] (X.alloc (.cells #[.int .i64 (n : Int)] 3)) (WrPost B g (L0 ++ beN n 2) (X.alloc (.cells #[.int .i64 (n : Int)] 3)))) := ⟨wsmall_any B g L0 X.heap.size 0 3 _ n 2 _ (hW.below hal) hnew (by decide) (by omega) rfl (by omega) (put2 n) (by omega)⟩
  have s0 : X.cell? ⟨sb, off, none⟩ = some (.slice A n c) := by rw [cell_of_row X sb off ss 27 (0, 0) hs, hnn]; exact hsc
  have HN := Aside0.mk hnn
  have HNB := Aside0.mk (show n ≤ 1000000 by omega)
  have HB0 := Aside0.mk hW.1
  have HG0 := Aside0.mk hg0
  have HF := Aside0.mk (And.intro hf (And.intro hfg hfu))
  have HS := Aside0.mk (And.intro hs (And.intro hsg hsu))
  have HSC := Aside0.mk hsc
  have HAA := Aside0.mk hA
  have HU := Aside0.mk (And.intro hug hBu)
  have HUS := Aside0.mk hu
  have HL := Aside0.mk hl
  have HAL := Aside0.mk hal
  have HNEW := Aside0.mk hnew
  have hn9 : (n : Int) ≤ 1000000 := by omega
  clear hW hf hfg hfu hs hsg hsu hsc hA hug hBu hu hl hn hnn hal hnew hg0
  go_enter Tryd.func57, Tryd.ntmps57
  go_wp2_with (go_at_call 56; ((with_reducible refine (HT0.out).mono ?_)))
  rintro e w1 ⟨rfl, hW1, hb1, hk1⟩
  have n1 : w1.cell? ⟨X.heap.size, 0, none⟩ = some (.int .i64 (n : Int)) := blk_cell (kept_cell hk1 HNEW.out (by decide) (by have := HG0.out; omega)) 0
  have hkX : Lib.OthersKept 5 (some g) X w1 := (kept_below (e := 5) (b := some g) HAL.out).trans hk1
  have hbX : Below B X w1 := (HAL.out.mono (Nat.le_trans HB0.out (Nat.le_of_lt HG0.out))).trans hb1
  have HI1 : Aside0 (0 < n → ListInv B g ub 5 31 cs X (L0 ++ beN n 2 ++ (us.take 0).flatMap SessB) 0 w1) := ⟨fun hp => ⟨by rw [List.take_zero, List.flatMap_nil, List.append_nil]; exact hW1, hbX, Kept2.of hkX, cs, kept_cell hkX (HAA.out (by rw [← HN.out]; exact hp)).2.1 (by decide) HU.out.1, rfl, fun _ _ => rfl⟩⟩
  have HW1 := Aside0.mk hW1
  have HX1 := Aside0.mk hbX
  have HK1 := Aside0.mk hkX
  clear hW1 hb1 hk1 hkX hbX HT0
  by_cases h0 : n = 0
  · have hz : ¬ (0 : Int) < (n : Int) := by omega
    have hzd : decide ((0 : Int) < (n : Int)) = false := decide_eq_false hz
    have H0 := Aside0.mk h0
    clear h0
    go_wp2
    go_loopw [16] (fun v16 wr => v16 = .int .i64 0 ∧ Aside0 (wr = w1)) (fun _ _ => 0)
    case atStart => exact ⟨rfl, ⟨rfl⟩⟩
    case round =>
      obtain ⟨rfl, HQ⟩ := hrel
      go_wp2
      go_end0
      have hus : us = [] := List.eq_nil_of_length_eq_zero (by rw [← HN.out]; exact H0.out)
      rw [HQ.out]
      refine ⟨rfl, ?_, HX1.out, Kept2.of HK1.out⟩
      rw [hus, List.flatMap_nil, List.append_nil, List.length_nil, ← H0.out]
      exact HW1.out
  have hp : 0 < n := by omega
  obtain ⟨rfl, hub, hnc⟩ := HAA.out (by rw [← HN.out]; exact hp)
  have HUB := Aside0.mk hub
  have hnc' : n ≤ c := by rw [HN.out]; exact hnc
  have HP := Aside0.mk hp
  clear hub hnc h0
  go_wp2
  go_loopw [16] (fun v16 wr => ∃ (i : Nat), i ≤ n ∧ v16 = .int .i64 (i : Int) ∧ Aside0 (ListInv B g ub 5 31 cs X (L0 ++ beN n 2 ++ (us.take i).flatMap SessB) i wr)) (fun v16 _ => n - (intOf v16).toNat)
  case atStart => exact ⟨0, Nat.zero_le _, rfl, ⟨HI1.out HP.out⟩⟩
  case round =>
    obtain ⟨i, hi, rfl, HI⟩ := hrel
    have hss := HI.out.kept.cell HS.out.1 (by decide) HS.out.2.1 HS.out.2.2
    have s1 : wr.cell? ⟨sb, off, none⟩ = some (.slice (some ⟨ub, 0, none⟩) n c) := by rw [cell_of_row wr sb off ss 27 (0, 0) hss, HN.out]; exact HSC.out
    clear hss
    by_cases hlt : i < n
    · have z1 : (i : Int) < (n : Int) := by omega
      have z1d : decide ((i : Int) < (n : Int)) = true := decide_eq_true z1
      have z2 : ((i : Int) == (n : Int)) = false := by rw [beq_eq_false_iff_ne]; omega
      have HLT := Aside0.mk hlt
      obtain ⟨cs', hcs1, hcs2, hcs3⟩ := HI.out.cells
      have hil : i < us.length := by rw [← HN.out]; exact hlt
      have htk : (us.take (i + 1)).flatMap SessB = (us.take i).flatMap SessB ++ SessB us[i] := by
        rw [List.take_succ_eq_append_getElem hil, List.flatMap_append]
        simp
      have hle : ((us.take (i + 1)).flatMap SessB).length ≤ (us.flatMap SessB).length := by
        conv => rhs; rw [← List.take_append_drop (i + 1) us, List.flatMap_append, List.length_append]
        omega
      have hel := wlistS_elem B g _ fb ub cs' cs us[i] i X wr HI.out.laid (HI.out.kept.cell HF.out.1 (by decide) HF.out.2.1 HF.out.2.2) HF.out.2.1 HF.out.2.2 hcs1 HU.out.1 HU.out.2 HI.out.below (HUS.out i hil) hcs3 (by
        have := HL.out
        rw [htk, List.length_append] at hle
        rw [List.length_append, List.length_append, beN_length]
        omega)
      rw [List.append_assoc (L0 ++ beN n 2), ← htk] at hel
      have HEL := Aside0.mk hel
      have HC2 := Aside0.mk (And.intro hcs2 hcs3)
      clear hlt hcs1 hcs2 hcs3 hil htk hle hel
      go_wp2_with (go_at_call 58; ((with_reducible refine (HEL.out).mono ?_)))
      rintro e w2 ⟨rfl, hW2, hB2, hK2, cs2, hc1, hc2, hc3⟩
      have HI2 : Aside0 (ListInv B g ub 5 31 cs X (L0 ++ beN n 2 ++ (us.take (i + 1)).flatMap SessB) (i + 1) w2) := ⟨⟨hW2, HI.out.below.trans hB2, HI.out.kept.trans hK2, cs2, hc1, hc2.trans HC2.out.1, fun m hm => (hc3 m (.inr (by omega))).trans (HC2.out.2 m (by omega))⟩⟩
      clear hW2 hB2 hK2 hc1 hc2 hc3
      go_wp2
      go_roundw
      case rel => exact ⟨i + 1, HLT.out, by go_num, HI2⟩
      case measure => have := HLT.out; simp [intOf]; omega
    · have z1 : ¬ (i : Int) < (n : Int) := by omega
      have z1d : decide ((i : Int) < (n : Int)) = false := decide_eq_false z1
      obtain rfl : i = n := by omega
      have HTK : Aside0 (us.take i = us) := ⟨List.take_of_length_le (by rw [← HN.out]; exact Nat.le_refl _)⟩
      clear hlt
      go_wp2
      go_end0
      refine ⟨rfl, ?_, HI.out.below, HI.out.kept⟩
      have h := HI.out.laid
      rw [HTK.out] at h
      rw [← HN.out]
      simpa only [List.append_assoc] using h
end Go.Proofs.YtnlhomgclplnhaaDoor.E


/- The writer of package code: a state. -/
namespace Go.Proofs.YtnlhomgclplnhaaDoor.E
open Go.RowKit Go.Proofs.YtnlhomgclplnhaaDoorW.PrintWords Go.Proofs.YtnlhomgclplnhaaDoorW.PrintLast Go.Proofs.YtnlhomgclplnhaaDoorW.PrintMore Go.Proofs.YtnlhomgclplnhaaDoor.Pr
set_option linter.unusedVariables false
set_option linter.unusedSimpArgs false
attribute [local go_sem] opVal opUpon
def stateB (clock : Nat) (us : List S33) (ss : List S31) : List Int := beN clock 8 ++ (beN us.length 2 ++ us.flatMap UserB) ++ (beN ss.length 2 ++ ss.flatMap SessB)
theorem UserAt.to {B : Nat} {X Y : World} {cs : Array Value} {off : Nat} {u : S33} (h : UserAt B X cs off u) (hb : Below B X Y) : UserAt B Y cs off u := by
  obtain ⟨A1, c1, A2, c2, h0, h1, h2, h3, h4, h5, hC1, hC2, hr⟩ := h
  exact ⟨A1, c1, A2, c2, h0, h1, h2, h3, h4, h5, fun Z hZ => hC1 Z (hb.trans hZ), fun Z hZ => hC2 Z (hb.trans hZ), hr⟩
set_option maxHeartbeats 8000000 in
set_option maxRecDepth 100000 in
theorem wstate_any (B g sb ub vb : Nat) (clock : Nat) (Au As : Option Addr) (cu cv : Nat) (csu csv : Array Value) (us : List S33) (ss : List S31) (X : World) (hW : WrAt B g [] X)
    (hs : X.heap[sb]? = some (.cells #[.int .u64 (clock : Int), .slice Au us.length cu, .slice As ss.length cv] 27 (0, 0))) (hsg : sb ≠ g) (hsu : sb ≠ ub) (hsv : sb ≠ vb) (hug : ub ≠ g) (hvg : vb ≠ g) (huv : ub ≠ vb) (hBu : B ≤ ub) (hBv : B ≤ vb) (hBs : B ≤ sb) (hux : ub ≠ X.heap.size) (hvx : vb ≠ X.heap.size)
    (hA : 0 < us.length → Au = some ⟨ub, 0, none⟩ ∧ X.heap[ub]? = some (.cells csu 33 (0, 0)) ∧ us.length ≤ cu) (hu : ∀ i (h : i < us.length), UserAt B X csu (6 * i) us[i])
    (hV : 0 < ss.length → As = some ⟨vb, 0, none⟩ ∧ X.heap[vb]? = some (.cells csv 31 (0, 0)) ∧ ss.length ≤ cv) (hv : ∀ i (h : i < ss.length), SessAt B X csv (5 * i) ss[i])
    (hl : (us.flatMap UserB).length + (ss.flatMap SessB).length ≤ 600000) (hn : us.length ≤ 1000000) (hm : ss.length ≤ 1000000) :
    Calls Tryd.prog 30 #[.iface 60 (.pointer (some ⟨g, 0, none⟩)), .pointer (some ⟨sb, 0, none⟩)] X fun e w' => e = .returned (.tuple #[]) ∧ WrAt B g (stateB clock us ss) w' ∧ Below B X w' := by
  have q3 := wNilN
  have q4 := wMetN
  have hmf : ∀ (fn : Fn) (first cap : Array Value) (w : World), (Instr.makeFunc fn first cap).run Tryd.prog w = .ok (.func fn first cap) w := fun _ _ _ _ => rfl
  have hg0 : g < X.heap.size := by obtain ⟨-, v, hg, -⟩ := hW; exact (Array.getElem?_eq_some_iff.1 hg).1
  have hs0 := (Array.getElem?_eq_some_iff.1 hs).1
  obtain ⟨nu, hnu⟩ : ∃ n, n = us.length := ⟨_, rfl⟩
  obtain ⟨nv, hnv⟩ : ∃ n, n = ss.length := ⟨_, rfl⟩
  rw [← hnu, ← hnv] at hs
  have hal := below_alloc (Below.refl X.heap.size X) (.cells #[.iface 60 (.pointer (some ⟨g, 0, none⟩))] 70)
  have hf1 := heap_alloc_new X (.cells #[.iface 60 (.pointer (some ⟨g, 0, none⟩))] 70)
  have hW1 := hW.below hal
  obtain ⟨X1, hX1⟩ : ∃ X1, X1 = X.alloc (.cells #[.iface 60 (.pointer (some ⟨g, 0, none⟩))] 70) := ⟨_, rfl⟩
  rw [← hX1] at hal hf1 hW1
  have hBX : Below B X X1 := hal.mono (Nat.le_trans hBs (Nat.le_of_lt hs0))
  have hs1 := (hal.block sb hs0).trans hs
  have HW1 := Aside0.mk hW1
  have HF1 := Aside0.mk hf1
  have HS1 := Aside0.mk hs1
  have HX1 := Aside0.mk hBX
  have HEQ := Aside0.mk hX1
  have HN := Aside0.mk (And.intro hnu hnv)
  have HNE := Aside0.mk (show (X.heap.size ≠ g ∧ X.heap.size ≠ ub ∧ X.heap.size ≠ vb ∧ X.heap.size ≠ sb) ∧ (sb ≠ g ∧ sb ≠ ub ∧ sb ≠ vb) ∧ (ub ≠ g ∧ vb ≠ g ∧ ub ≠ vb) ∧ B ≤ ub ∧ B ≤ vb by omega)
  have HA := Aside0.mk (show 0 < us.length → Au = some ⟨ub, 0, none⟩ ∧ X1.heap[ub]? = some (.cells csu 33 (0, 0)) ∧ us.length ≤ cu from fun h => ⟨(hA h).1, (hal.block ub (Array.getElem?_eq_some_iff.1 (hA h).2.1).1).trans (hA h).2.1, (hA h).2.2⟩)
  have HV := Aside0.mk (show 0 < ss.length → As = some ⟨vb, 0, none⟩ ∧ X1.heap[vb]? = some (.cells csv 31 (0, 0)) ∧ ss.length ≤ cv from fun h => ⟨(hV h).1, (hal.block vb (Array.getElem?_eq_some_iff.1 (hV h).2.1).1).trans (hV h).2.1, (hV h).2.2⟩)
  have HU := Aside0.mk (fun i (h : i < us.length) => (hu i h).to hBX)
  have HVV := Aside0.mk hv
  have HL := Aside0.mk (And.intro hl (And.intro hn hm))
  obtain ⟨L1, hL1⟩ : ∃ L, L = ([] : List Int) ++ beN clock 8 := ⟨_, rfl⟩
  have E1 := Aside0.mk (show L1.length = 8 by rw [hL1]; rfl)
  have HT1 : Aside0 (Calls Tryd.prog 101 #[.pointer (some ⟨g, 0, none⟩), .pointer (some ⟨sb, 0, none⟩), .int .i64 8] X1.drew (WrPost B g L1 X1.drew)) := ⟨by
    rw [hL1]
    exact wnum_box B g [] sb 0 27 _ clock 8 X1.drew hW1.drew (show X1.drew.heap[sb]? = _ from hs1) rfl (put8 clock) (by decide)⟩
  have HL1 := Aside0.mk hL1
  have fb1 : X1.cell? ⟨X.heap.size, 0, none⟩ = some (.iface 60 (.pointer (some ⟨g, 0, none⟩))) := blk_cell hf1 0
  clear hW hs hsg hsu hsv hug hvg huv hBu hBv hBs hux hvx hA hu hV hv hl hn hm hg0 hs0 hnu hnv hal hf1 hW1 hBX hs1 hL1
  obtain ⟨fb, hfb⟩ : ∃ fb, fb = X.heap.size := ⟨_, rfl⟩
  rw [← hfb] at HF1 HNE fb1
  have HFB := Aside0.mk hfb
  go_enter Tryd.func30, Tryd.ntmps30
  rw [hX1] at fb1
  clear hX1
  go_wp2
  rw [← HEQ.out, ← HFB.out]
  rw [← HEQ.out] at fb1
  clear hfb
  go_still_tail 7, (by kernel_rfl)
  change wpList _ _ _ _ _ X1.drew
  go_wp2_with (go_at_call 101; ((with_reducible refine (HT1.out).mono ?_)))
  rintro e w2 ⟨rfl, hW2, hb2, hk2⟩
  have HW2 := Aside0.mk hW2
  have HX2 := Aside0.mk ((Below.refl B X1).drew.trans hb2)
  have HF2 := Aside0.mk (kept_cell hk2 (show X1.drew.heap[fb]? = _ from HF1.out) (by decide) HNE.out.1.1)
  have HS2 := Aside0.mk (kept_cell hk2 (show X1.drew.heap[sb]? = _ from HS1.out) (by decide) HNE.out.2.1.1)
  have HK2 := Aside0.mk (show Lib.OthersKept 5 (some g) X1 w2 from hk2)
  clear hW2 hb2 hk2 HT1 fb1
  have HTU := Aside0.mk (wlistU B g L1 fb sb 1 ub cu _ csu us Au w2.drew HW2.out.drew (show w2.drew.heap[fb]? = _ from HF2.out) HNE.out.1.1 HNE.out.1.2.1 (show w2.drew.heap[sb]? = _ from HS2.out) HNE.out.2.1.1 HNE.out.2.1.2.1 (by rw [HN.out.1]; rfl)
    (fun h => ⟨(HA.out h).1, kept_cell HK2.out (HA.out h).2.1 (by decide) HNE.out.2.2.1.1, (HA.out h).2.2⟩) HNE.out.2.2.1.1 HNE.out.2.2.2.1 (fun i h => (HU.out i h).to (HX2.out.drew)) (by have := HL.out; have := E1.out; omega) HL.out.2.1)
  have fb2 : w2.cell? ⟨fb, 0, none⟩ = some (.iface 60 (.pointer (some ⟨g, 0, none⟩))) := blk_cell HF2.out 0
  go_wp2
  go_still_tail 5, (by kernel_rfl)
  change wpList _ _ _ _ _ w2.drew
  go_wp2_with (go_at_call 53; ((with_reducible refine (HTU.out).mono ?_)))
  rintro e w3 ⟨rfl, hW3, hb3, hk3⟩
  have HW3 := Aside0.mk hW3
  have HX3 := Aside0.mk (HX2.out.trans ((Below.refl B w2).drew.trans hb3))
  have HF3 := Aside0.mk (hk3.cell (show w2.drew.heap[fb]? = _ from HF2.out) (by decide) HNE.out.1.1 HNE.out.1.2.1)
  have HS3 := Aside0.mk (hk3.cell (show w2.drew.heap[sb]? = _ from HS2.out) (by decide) HNE.out.2.1.1 HNE.out.2.1.2.1)
  have HK3 := Aside0.mk (show Kept2 g ub X1 w3 from (Kept2.of HK2.out).trans (show Kept2 g ub w2 w3 from hk3))
  clear hW3 hb3 hk3 HTU fb2
  obtain ⟨L2, hL2⟩ : ∃ L, L = L1 ++ beN us.length 2 ++ us.flatMap UserB := ⟨_, rfl⟩
  have hE2 : L2.length = 8 + 2 + (us.flatMap UserB).length := by rw [hL2, List.length_append, List.length_append, beN_length, E1.out]
  have HW3' : Aside0 (WrAt B g L2 w3) := ⟨by rw [hL2]; exact HW3.out⟩
  have HL2 := Aside0.mk hL2
  have E2 := Aside0.mk hE2
  clear hL2 hE2
  have HTV := Aside0.mk (wlistS B g L2 fb sb 2 vb cv _ csv ss As w3.drew HW3'.out.drew (show w3.drew.heap[fb]? = _ from HF3.out) HNE.out.1.1 HNE.out.1.2.2.1 (show w3.drew.heap[sb]? = _ from HS3.out) HNE.out.2.1.1 HNE.out.2.1.2.2 (by rw [HN.out.2]; rfl)
    (fun h => ⟨(HV.out h).1, HK3.out.cell (HV.out h).2.1 (by decide) HNE.out.2.2.1.2.1 (fun e => HNE.out.2.2.1.2.2 e.symm), (HV.out h).2.2⟩) HNE.out.2.2.1.2.1 HNE.out.2.2.2.2 (fun i h => HVV.out i h) (by have := HL.out; have := E2.out; omega) HL.out.2.2)
  have fb3 : w3.cell? ⟨fb, 0, none⟩ = some (.iface 60 (.pointer (some ⟨g, 0, none⟩))) := blk_cell HF3.out 0
  go_wp2
  go_still_tail 5, (by kernel_rfl)
  change wpList _ _ _ _ _ w3.drew
  go_wp2_with (go_at_call 57; ((with_reducible refine (HTV.out).mono ?_)))
  rintro e w4 ⟨rfl, hW4, hb4, hk4⟩
  have HW4 := Aside0.mk hW4
  have HX4 := Aside0.mk (HX3.out.trans ((Below.refl B w3).drew.trans hb4))
  clear hW4 hb4 hk4 HTV fb3
  go_wp2
  go_end0
  refine ⟨rfl, ?_, HX1.out.trans HX4.out⟩
  have e : stateB clock us ss = L2 ++ beN ss.length 2 ++ ss.flatMap SessB := by rw [HL2.out, HL1.out, stateB]; simp only [List.append_assoc, List.nil_append]
  rw [e]
  exact HW4.out
end Go.Proofs.YtnlhomgclplnhaaDoor.E


/- slices.Clone of users and of sessions. -/
namespace Go.Proofs.YtnlhomgclplnhaaDoor.E
open Go.RowKit Go.Proofs.YtnlhomgclplnhaaDoorW.PrintWords Go.Proofs.YtnlhomgclplnhaaDoorW.PrintLast Go.Proofs.YtnlhomgclplnhaaDoorW.PrintMore Go.Proofs.YtnlhomgclplnhaaDoor.Pr
set_option linter.unusedVariables false
set_option linter.unusedSimpArgs false
attribute [local go_sem] opVal opUpon
theorem infoU : (Tryd.prog.info? 33).map (fun i => (i.zero, i.size, i.bytes)) = some (some (.agg #[.string ⟨#[]⟩, .slice none 0 0, .slice none 0 0, .string ⟨#[]⟩, .int .i64 0, .int .u64 0]), 6, 96) := by kernel_rfl
theorem infoS : (Tryd.prog.info? 31).map (fun i => (i.zero, i.size, i.bytes)) = some (some (.agg #[.string ⟨#[]⟩, .string ⟨#[]⟩, .int .u64 0, .int .u64 0, .bool false]), 5, 56) := by kernel_rfl
theorem cur_at {w : World} {ad : Addr} {news : List Value} {cur : Array Value} {N : Nat} (hl : news.length = N) (hn : ∀ j u, news[j]? = some u → w.cell? (ad.add j) = some u) (hcur : cur.toList.take N = news) {j : Nat} {v : Value} (hj : j < N) (hc : w.cell? (ad.add j) = some v) : cur[j]? = some v := by
  have h1 : j < news.length := by omega
  have h2 := hn j news[j] (List.getElem?_eq_getElem h1)
  rw [hc] at h2
  have h3 : (cur.toList.take N)[j]? = some news[j] := by rw [hcur]; exact List.getElem?_eq_getElem h1
  rw [List.getElem?_take_of_lt hj, Array.getElem?_toList] at h3
  rw [h3]
  exact h2.symm
/-- What the chapter's numbers of a user, and of a session, are. -/
def UOk (u : S33) : Prop := ((∀ x ∈ u.f1, 0 ≤ x ∧ x ≤ 255) ∧ (∀ x ∈ u.f2, 0 ≤ x ∧ x ≤ 255)) ∧ 0 ≤ u.f4 ∧ u.f4 ≤ 1000000 ∧ 0 ≤ u.f5
def SOk (u : S31) : Prop := 0 ≤ u.f2 ∧ 0 ≤ u.f3
theorem run_eqlU (w : World) (a : Option Addr) (n c n' c' : Nat) : (binOp .eql 24 (.slice a n c) (.slice none n' c')).run Tryd.prog w = .ok (.bool a.isNone) w := Lib.run_eql_slice_nil w _ _ a n c n' c' Tryd.underlying24
theorem run_eqlS (w : World) (a : Option Addr) (n c n' c' : Nat) : (binOp .eql 25 (.slice a n c) (.slice none n' c')).run Tryd.prog w = .ok (.bool a.isNone) w := Lib.run_eql_slice_nil w _ _ a n c n' c' Tryd.underlying25

def cloneUPost (B n : Nat) (us : List S33) (X : World) (e : Ending) (w' : World) : Prop :=
  ∃ A' c', e = .returned (.slice A' n c') ∧ Below X.heap.size X w' ∧ ∃ (ub : Nat) (cur : Array Value), X.heap.size ≤ ub ∧ (0 < us.length → A' = some ⟨ub, 0, none⟩ ∧ w'.heap[ub]? = some (.cells cur 33 (0, 0)) ∧ us.length ≤ c') ∧ ∀ i (h : i < us.length), UserAt B w' cur (6 * i) us[i]
set_option maxHeartbeats 8000000 in
set_option maxRecDepth 100000 in
theorem cloneU_any (A : Option Addr) (n c : Nat) (us : List S33) (W w : World) (hb : Below W.heap.size W w) (hC : Kd.C k33 W A n us) (hok : ∀ u ∈ us, UOk u) (hn : n ≤ 1000000) :
    Calls Tryd.prog 51 #[.slice A n c] w (cloneUPost W.heap.size n us w) := by
  have q := run_eqlU
  have hlen := Kd.C_len hC
  cases A with
  | none =>
    have h0 : n = 0 := by
      rcases Nat.eq_zero_or_pos n with h | h
      · exact h
      · obtain ⟨ad, cs, e, -⟩ := Kd.C_get hC z33 0 (by omega) (by omega)
        cases e
    subst h0
    have hus : us = [] := List.eq_nil_of_length_eq_zero hlen
    subst hus
    clear hC hok hlen hb hn
    go_enter Tryd.func51, Tryd.ntmps51
    go_wp2
    go_ret
    exact ⟨none, 0, rfl, Below.refl _ _, w.heap.size, #[], Nat.le_refl _, fun h => absurd h (Nat.lt_irrefl 0), fun i h => absurd h (Nat.not_lt_zero i)⟩
  | some ad =>
    obtain ⟨news, hrep, hnw⟩ := ReadsRow.inner_ hC
    have hone : ∀ u ∈ news, u.oneCell' = true := Kd.reps_one hrep (by decide) (fun p cs hK => by obtain ⟨_, _, _, _, rfl, -⟩ := k33_open hK; simp [Value.oneCell'])
    have hnl : news.length = n * 6 := by rw [← hlen]; exact hrep.1
    have hW := fun j u hj => pw_cell_below hb (hnw j u hj)
    obtain ⟨i0, hi, hzz⟩ := Option.map_eq_some_iff.1 infoU
    simp only [Prod.mk.injEq] at hzz
    obtain ⟨hz0, hz1, hz2⟩ := hzz
    have hal := below_alloc (Below.refl w.heap.size w) (.cells #[] 33)
    have hown : (w.alloc (.cells #[] 33)).ownsRow w.heap.size 33 6 (.slice (some ⟨w.heap.size, 0, none⟩) 0 0) 0 [] := ⟨rfl, .inr ⟨w.heap.size, 0, #[], rfl, Nat.le_refl _, heap_alloc_new w _, Nat.le_refl _, Nat.zero_le _, rfl, rfl⟩⟩
    have HI := Aside0.mk (And.intro hi (And.intro hz0 (And.intro hz1 hz2)))
    have HNEW := Aside0.mk (fun j u hj => pw_cell_below hal (hW j u hj))
    have HOWN := Aside0.mk hown
    have HAL := Aside0.mk hal
    have HC := Aside0.mk hC
    have HOK := Aside0.mk hok
    have HLEN := Aside0.mk hlen
    have HB := Aside0.mk hb
    have HNL := Aside0.mk hnl
    have HONE := Aside0.mk hone
    have HWN := Aside0.mk hW
    have HN := Aside0.mk hn
    have hn9 : n ≤ 1000000 := hn
    clear hrep hnw hone hnl hW hi hz0 hz1 hz2 hal hown hC hok hlen hb hn
    go_enter Tryd.func51, Tryd.ntmps51
    go_wp2_with (at_builtin; refine wpList_append_own _ rfl (.tmp 5) (.tmp 6) 24 rfl w.heap.size 33 i0 _ 6 96 Tryd.underlying24 HI.out.1 HI.out.2.1 HI.out.2.2.1 HI.out.2.2.2 rfl (by decide) _ 0 [] rfl HOWN.out ad n c news rfl HNL.out HNEW.out HONE.out (by unfold maxLen; omega) (by omega) HAL.out.size ?_)
    intro v1 w1 hown1 hgr hiff
    have hb1 : Below w.heap.size w w1 := HAL.out.grown hgr HAL.out.size (fun k hk => by cases hk; exact Nat.le_refl _)
    rcases hown1.2 with ⟨rfl, h0⟩ | ⟨ub, cap, cur, rfl, hbase, hheap, hnc, hmx, hsz, hcur⟩
    · exact (hiff rfl).elim
    have hus : ∀ i (h : i < us.length), UserAt W.heap.size w1 cur (6 * i) us[i] := by
      intro i h
      have hin : i < n := by rw [← HLEN.out]; exact h
      have hok := HOK.out us[i] (List.getElem_mem h)
      have hrd : rd_T33 us (i : Int) = us[i] := by simp [rd_T33, List.getD_eq_getElem?_getD, h]
      have hbW := HB.out.trans (hb1.mono HB.out.size)
      have put : ∀ j v, j < 6 → w.cell? (ad.add (i * 6 + j)) = some v → cur[6 * i + j]? = some v := by
        intro j v hj hc
        rw [show 6 * i + j = i * 6 + j by omega]
        exact cur_at HNL.out HWN.out (by simpa using hcur) (by have : i * 6 + 6 ≤ n * 6 := by rw [← Nat.succ_mul]; exact Nat.mul_le_mul_right 6 hin
                                                               omega) hc
      obtain ⟨ad', A1, c1, A2, c2, ead, e0, e1, e2, e3, e4, e5, -, hC1, -, hC2⟩ := at_T33 HC.out (i : Int) (by omega) (by omega)
      injection ead with ead
      subst ead
      rw [Int.toNat_natCast] at e0 e1 e2 e3 e4 e5
      rw [hrd] at e0 e1 e2 e3 e4 e5 hC1 hC2
      rw [← add_field _ _ 1 (by omega)] at e1
      rw [← add_field _ _ 2 (by omega)] at e2
      rw [← add_field _ _ 3 (by omega)] at e3
      rw [← add_field _ _ 4 (by omega)] at e4
      rw [← add_field _ _ 5 (by omega)] at e5
      have tr := fun {a : Addr} {v : Value} (h : W.cell? a = some v) => pw_cell_below HB.out h
      exact ⟨A1, c1, A2, c2, put 0 _ (by decide) (tr e0), put 1 _ (by decide) (tr e1), put 2 _ (by decide) (tr e2), put 3 _ (by decide) (tr e3), put 4 _ (by decide) (tr e4), put 5 _ (by decide) (tr e5), fun Y hY => Kd.C_below hC1 (hbW.trans hY), fun Y hY => Kd.C_below hC2 (hbW.trans hY), hok⟩
    have HBB := Aside0.mk hb1
    have HU := Aside0.mk hus
    have HH := Aside0.mk (And.intro hbase (And.intro hheap hnc))
    clear hown1 hgr hiff hb1 hbase hheap hmx hsz hcur hus hnc
    go_wp2
    go_ret
    exact ⟨_, _, rfl, HBB.out, ub, cur, HH.out.1, fun _ => ⟨rfl, HH.out.2.1, by rw [HLEN.out]; exact HH.out.2.2⟩, HU.out⟩
def cloneSPost (B n : Nat) (us : List S31) (X : World) (e : Ending) (w' : World) : Prop :=
  ∃ A' c', e = .returned (.slice A' n c') ∧ Below X.heap.size X w' ∧ ∃ (ub : Nat) (cur : Array Value), X.heap.size ≤ ub ∧ (0 < us.length → A' = some ⟨ub, 0, none⟩ ∧ w'.heap[ub]? = some (.cells cur 31 (0, 0)) ∧ us.length ≤ c') ∧ ∀ i (h : i < us.length), SessAt B w' cur (5 * i) us[i]
set_option maxHeartbeats 8000000 in
set_option maxRecDepth 100000 in
theorem cloneS_any (A : Option Addr) (n c : Nat) (us : List S31) (W w : World) (hb : Below W.heap.size W w) (hC : Kd.C k31 W A n us) (hok : ∀ u ∈ us, SOk u) (hn : n ≤ 1000000) :
    Calls Tryd.prog 52 #[.slice A n c] w (cloneSPost W.heap.size n us w) := by
  have q := run_eqlS
  have hlen := Kd.C_len hC
  cases A with
  | none =>
    have h0 : n = 0 := by
      rcases Nat.eq_zero_or_pos n with h | h
      · exact h
      · obtain ⟨ad, cs, e, -⟩ := Kd.C_get hC z31 0 (by omega) (by omega)
        cases e
    subst h0
    have hus : us = [] := List.eq_nil_of_length_eq_zero hlen
    subst hus
    clear hC hok hlen hb hn
    go_enter Tryd.func52, Tryd.ntmps52
    go_wp2
    go_ret
    exact ⟨none, 0, rfl, Below.refl _ _, w.heap.size, #[], Nat.le_refl _, fun h => absurd h (Nat.lt_irrefl 0), fun i h => absurd h (Nat.not_lt_zero i)⟩
  | some ad =>
    obtain ⟨news, hrep, hnw⟩ := ReadsRow.inner_ hC
    have hone : ∀ u ∈ news, u.oneCell' = true := Kd.reps_one hrep (by decide) (fun p cs hK => by obtain rfl := k31_open hK; simp [Value.oneCell'])
    have hnl : news.length = n * 5 := by rw [← hlen]; exact hrep.1
    have hW := fun j u hj => pw_cell_below hb (hnw j u hj)
    obtain ⟨i0, hi, hzz⟩ := Option.map_eq_some_iff.1 infoS
    simp only [Prod.mk.injEq] at hzz
    obtain ⟨hz0, hz1, hz2⟩ := hzz
    have hal := below_alloc (Below.refl w.heap.size w) (.cells #[] 31)
    have hown : (w.alloc (.cells #[] 31)).ownsRow w.heap.size 31 5 (.slice (some ⟨w.heap.size, 0, none⟩) 0 0) 0 [] := ⟨rfl, .inr ⟨w.heap.size, 0, #[], rfl, Nat.le_refl _, heap_alloc_new w _, Nat.le_refl _, Nat.zero_le _, rfl, rfl⟩⟩
    have HI := Aside0.mk (And.intro hi (And.intro hz0 (And.intro hz1 hz2)))
    have HNEW := Aside0.mk (fun j u hj => pw_cell_below hal (hW j u hj))
    have HOWN := Aside0.mk hown
    have HAL := Aside0.mk hal
    have HC := Aside0.mk hC
    have HOK := Aside0.mk hok
    have HLEN := Aside0.mk hlen
    have HB := Aside0.mk hb
    have HNL := Aside0.mk hnl
    have HONE := Aside0.mk hone
    have HWN := Aside0.mk hW
    have HN := Aside0.mk hn
    have hn9 : n ≤ 1000000 := hn
    clear hrep hnw hone hnl hW hi hz0 hz1 hz2 hal hown hC hok hlen hb hn
    go_enter Tryd.func52, Tryd.ntmps52
    go_wp2_with (at_builtin; refine wpList_append_own _ rfl (.tmp 5) (.tmp 6) 25 rfl w.heap.size 31 i0 _ 5 56 Tryd.underlying25 HI.out.1 HI.out.2.1 HI.out.2.2.1 HI.out.2.2.2 rfl (by decide) _ 0 [] rfl HOWN.out ad n c news rfl HNL.out HNEW.out HONE.out (by unfold maxLen; omega) (by omega) HAL.out.size ?_)
    intro v1 w1 hown1 hgr hiff
    have hb1 : Below w.heap.size w w1 := HAL.out.grown hgr HAL.out.size (fun k hk => by cases hk; exact Nat.le_refl _)
    rcases hown1.2 with ⟨rfl, h0⟩ | ⟨ub, cap, cur, rfl, hbase, hheap, hnc, hmx, hsz, hcur⟩
    · exact (hiff rfl).elim
    have hus : ∀ i (h : i < us.length), SessAt W.heap.size w1 cur (5 * i) us[i] := by
      intro i h
      have hin : i < n := by rw [← HLEN.out]; exact h
      have hok := HOK.out us[i] (List.getElem_mem h)
      have hrd : rd_T31 us (i : Int) = us[i] := by simp [rd_T31, List.getD_eq_getElem?_getD, h]
      have hbW := HB.out.trans (hb1.mono HB.out.size)
      have put : ∀ j v, j < 5 → w.cell? (ad.add (i * 5 + j)) = some v → cur[5 * i + j]? = some v := by
        intro j v hj hc
        rw [show 5 * i + j = i * 5 + j by omega]
        exact cur_at HNL.out HWN.out (by simpa using hcur) (by have : i * 5 + 5 ≤ n * 5 := by rw [← Nat.succ_mul]; exact Nat.mul_le_mul_right 5 hin
                                                               omega) hc
      obtain ⟨ad', ead, e0, e1, e2, e3, e4⟩ := at_T31 HC.out (i : Int) (by omega) (by omega)
      injection ead with ead
      subst ead
      rw [Int.toNat_natCast] at e0 e1 e2 e3 e4
      rw [hrd] at e0 e1 e2 e3 e4
      rw [← add_field _ _ 1 (by omega)] at e1
      rw [← add_field _ _ 2 (by omega)] at e2
      rw [← add_field _ _ 3 (by omega)] at e3
      rw [← add_field _ _ 4 (by omega)] at e4
      have tr := fun {a : Addr} {v : Value} (h : W.cell? a = some v) => pw_cell_below HB.out h
      exact ⟨put 0 _ (by decide) (tr e0), put 1 _ (by decide) (tr e1), put 2 _ (by decide) (tr e2), put 3 _ (by decide) (tr e3), put 4 _ (by decide) (tr e4), hok⟩
    have HBB := Aside0.mk hb1
    have HU := Aside0.mk hus
    have HH := Aside0.mk (And.intro hbase (And.intro hheap hnc))
    clear hown1 hgr hiff hb1 hbase hheap hmx hsz hcur hus hnc
    go_wp2
    go_ret
    exact ⟨_, _, rfl, HBB.out, ub, cur, HH.out.1, fun _ => ⟨rfl, HH.out.2.1, by rw [HLEN.out]; exact HH.out.2.2⟩, HU.out⟩
end Go.Proofs.YtnlhomgclplnhaaDoor.E


/- code.copied, code.State. -/
namespace Go.Proofs.YtnlhomgclplnhaaDoor.E
open Go.RowKit Go.Proofs.YtnlhomgclplnhaaDoorW.PrintWords Go.Proofs.YtnlhomgclplnhaaDoorW.PrintLast Go.Proofs.YtnlhomgclplnhaaDoorW.PrintMore Go.Proofs.YtnlhomgclplnhaaDoor.Pr
set_option linter.unusedVariables false
set_option linter.unusedSimpArgs false
attribute [local go_sem] opVal opUpon
theorem set3 {w : World} {g t : Nat} {a b c : Value} (h : w.heap[g]? = some (.cells #[a, b, c] t (0, 0))) (v0 v1 v2 : Value) :
    (((w.setCell ⟨g, 0, none⟩ v0).setCell ⟨g, 1, none⟩ v1).setCell ⟨g, 2, none⟩ v2).heap[g]? = some (.cells #[v0, v1, v2] t (0, 0)) := by
  have h1 := blk_set h 0 v0
  have h2 := blk_set h1 1 v1
  have h3 := blk_set h2 2 v2
  simpa using h3
def CopiedPost (clock : Int) (B n m : Nat) (us : List S33) (ss : List S31) (X : World) (e : Ending) (w' : World) : Prop :=
  ∃ A' c' B' d', e = .returned (.agg #[.int .u64 clock, .slice A' n c', .slice B' m d']) ∧ Below X.heap.size X w' ∧
    (∃ (ub : Nat) (cur : Array Value), (0 < us.length → (X.heap.size ≤ ub ∧ A' = some ⟨ub, 0, none⟩) ∧ w'.heap[ub]? = some (.cells cur 33 (0, 0)) ∧ us.length ≤ c') ∧ ∀ i (h : i < us.length), UserAt B w' cur (6 * i) us[i]) ∧
    (∃ (vb : Nat) (cur : Array Value), (0 < ss.length → (X.heap.size ≤ vb ∧ B' = some ⟨vb, 0, none⟩) ∧ w'.heap[vb]? = some (.cells cur 31 (0, 0)) ∧ ss.length ≤ d') ∧ ∀ i (h : i < ss.length), SessAt B w' cur (5 * i) ss[i])
set_option maxHeartbeats 8000000 in
set_option maxRecDepth 100000 in
theorem copied_any (clock : Int) (A : Option Addr) (n c : Nat) (us : List S33) (V : Option Addr) (m d : Nat) (ss : List S31) (W w : World) (hb : Below W.heap.size W w) (hC : Kd.C k33 W A n us) (hok : ∀ u ∈ us, UOk u) (hn : n ≤ 1000000) (hD : Kd.C k31 W V m ss) (hos : ∀ u ∈ ss, SOk u) (hm : m ≤ 1000000) :
    Calls Tryd.prog 29 #[.agg #[.int .u64 clock, .slice A n c, .slice V m d]] w (CopiedPost clock W.heap.size n m us ss w) := by
  have hu := Tryd.underlying27
  have HCU := Aside0.mk (fun (X : World) (hX : Below W.heap.size W X) => cloneU_any A n c us W X hX hC hok hn)
  have HCS := Aside0.mk (fun (X : World) (hX : Below W.heap.size W X) => cloneS_any V m d ss W X hX hD hos hm)
  have hb2 : Below w.heap.size w ((w.alloc (.cells #[.int .u64 clock, .slice A n c, .slice V m d] 27)).alloc (.cells #[.int .u64 0, .slice none 0 0, .slice none 0 0] 27)) := below_alloc (below_alloc (Below.refl _ _) _) _
  have hbox : ((w.alloc (.cells #[.int .u64 clock, .slice A n c, .slice V m d] 27)).alloc (.cells #[.int .u64 0, .slice none 0 0, .slice none 0 0] 27)).heap[w.heap.size]? = some (.cells #[.int .u64 clock, .slice A n c, .slice V m d] 27 (0, 0)) := (heap_alloc_old (w.alloc (.cells #[.int .u64 clock, .slice A n c, .slice V m d] 27)) (.cells #[.int .u64 0, .slice none 0 0, .slice none 0 0] 27) (by show w.heap.size < (w.heap.push _).size; rw [Array.size_push]; exact Nat.lt_succ_self _)).trans (heap_alloc_new w _)
  have hres : ((w.alloc (.cells #[.int .u64 clock, .slice A n c, .slice V m d] 27)).alloc (.cells #[.int .u64 0, .slice none 0 0, .slice none 0 0] 27)).heap[w.heap.size + 1]? = some (.cells #[.int .u64 0, .slice none 0 0, .slice none 0 0] 27 (0, 0)) := by have h := heap_alloc_new (w.alloc (.cells #[.int .u64 clock, .slice A n c, .slice V m d] 27)) (.cells #[.int .u64 0, .slice none 0 0, .slice none 0 0] 27); simpa using h
  have HC1 : Aside0 (Calls Tryd.prog 51 #[.slice A n c] ((w.alloc (.cells #[.int .u64 clock, .slice A n c, .slice V m d] 27)).alloc (.cells #[.int .u64 0, .slice none 0 0, .slice none 0 0] 27)).drew (cloneUPost W.heap.size n us ((w.alloc (.cells #[.int .u64 clock, .slice A n c, .slice V m d] 27)).alloc (.cells #[.int .u64 0, .slice none 0 0, .slice none 0 0] 27)).drew)) := ⟨HCU.out _ ((hb.trans (hb2.mono hb.size)).drew)⟩
  have HC2 : Aside0 (∀ X, Below ((w.alloc (.cells #[.int .u64 clock, .slice A n c, .slice V m d] 27)).alloc (.cells #[.int .u64 0, .slice none 0 0, .slice none 0 0] 27)).drew.heap.size ((w.alloc (.cells #[.int .u64 clock, .slice A n c, .slice V m d] 27)).alloc (.cells #[.int .u64 0, .slice none 0 0, .slice none 0 0] 27)).drew X → Calls Tryd.prog 52 #[.slice V m d] X (cloneSPost W.heap.size m ss X)) := ⟨fun X hX => HCS.out X ((hb.trans (hb2.mono hb.size)).drew.trans (hX.mono (Nat.le_trans hb.size hb2.size)))⟩
  have HBX := Aside0.mk (fun (X : World) (hX : Below ((w.alloc (.cells #[.int .u64 clock, .slice A n c, .slice V m d] 27)).alloc (.cells #[.int .u64 0, .slice none 0 0, .slice none 0 0] 27)).drew.heap.size ((w.alloc (.cells #[.int .u64 clock, .slice A n c, .slice V m d] 27)).alloc (.cells #[.int .u64 0, .slice none 0 0, .slice none 0 0] 27)).drew X) => And.intro ((hX.block w.heap.size (Array.getElem?_eq_some_iff.1 hbox).1).trans hbox) ((hX.block (w.heap.size + 1) (Array.getElem?_eq_some_iff.1 hres).1).trans hres))
  have HB2 := Aside0.mk hb2
  have HB := Aside0.mk hb
  clear hb hb2 hbox hres HCU HCS
  go_enter Tryd.func29, Tryd.ntmps29
  go_wp2
  go_region_with (first
    | (go_at_call 51; ((with_reducible refine (HC1.out).mono ?_)); rintro e w1 ⟨A1, c1, rfl, hb1, ub, cur, hub, hA1, hU1⟩; (have HB1 := Aside0.mk hb1); (have HQ1 := Aside0.mk (And.intro hub (And.intro hA1 hU1))); (have hx := (HBX.out w1 hb1).1); (have x1 := blk_cell hx 1); (have x2 := blk_cell hx 2); simp only [List.getElem?_toArray, List.getElem?_cons_zero, List.getElem?_cons_succ] at x1 x2; clear hb1 hub hA1 hU1 hx)
    | (go_at_call 52; ((with_reducible refine (HC2.out _ HB1.out).mono ?_)); rintro e w2 ⟨A2, c2, rfl, hb2, vb, cuv, hvb, hA2, hV2⟩; (have HB12 := Aside0.mk (below_step HB1.out hb2)); (have HBS := Aside0.mk hb2); (have HQ2 := Aside0.mk (And.intro hvb (And.intro hA2 hV2))); (have hx := (HBX.out w2 HB12.out).1); (have HX := Aside0.mk hx); (have y0 := blk_cell hx 0); (have y1 := blk_cell hx 1); (have y2 := blk_cell hx 2); simp only [List.getElem?_toArray, List.getElem?_cons_zero, List.getElem?_cons_succ] at y0 y1 y2; (have f1 := blk_frozen hx 1); (have f2 := blk_frozen hx 2); clear hb2 hvb hA2 hV2 hx))
  all_goals
    have hbx := blk_set (blk_set HX.out 1 (.slice A1 n c1)) 2 (.slice A2 m c2)
    simp only [List.setIfInBounds_toArray, List.set_cons_zero, List.set_cons_succ] at hbx
    have hrs : ((w2.setCell ⟨w.heap.size, 1, none⟩ (.slice A1 n c1)).setCell ⟨w.heap.size, 2, none⟩ (.slice A2 m c2)).heap[w.heap.size + 1]? = some (.cells #[.int .u64 0, .slice none 0 0, .slice none 0 0] 27 (0, 0)) := by
      rw [Below.heap_setCell _ ⟨w.heap.size, 2, none⟩ _ (w.heap.size + 1) (by show w.heap.size + 1 ≠ w.heap.size; omega), Below.heap_setCell _ ⟨w.heap.size, 1, none⟩ _ (w.heap.size + 1) (by show w.heap.size + 1 ≠ w.heap.size; omega)]
      exact (HBX.out w2 HB12.out).2
    have hst : ∀ k, k ≠ w.heap.size → ((w2.setCell ⟨w.heap.size, 1, none⟩ (.slice A1 n c1)).setCell ⟨w.heap.size, 2, none⟩ (.slice A2 m c2)).heap[k]? = w2.heap[k]? := fun k hk => by
      rw [Below.heap_setCell _ ⟨w.heap.size, 2, none⟩ _ k hk, Below.heap_setCell _ ⟨w.heap.size, 1, none⟩ _ k hk]
    have hbl : Below w.heap.size w ((w2.setCell ⟨w.heap.size, 1, none⟩ (.slice A1 n c1)).setCell ⟨w.heap.size, 2, none⟩ (.slice A2 m c2)) := below_setc (below_setc ((HB2.out.drew).trans (HB12.out.mono HB2.out.size)) (Nat.le_refl _)) (Nat.le_refl _)
    have hw2 : Below w.heap.size w2 ((w2.setCell ⟨w.heap.size, 1, none⟩ (.slice A1 n c1)).setCell ⟨w.heap.size, 2, none⟩ (.slice A2 m c2)) := below_setc (below_setc (Below.refl _ _) (Nat.le_refl _)) (Nat.le_refl _)
    obtain ⟨X, hX⟩ : ∃ X, X = ((w2.setCell ⟨w.heap.size, 1, none⟩ (.slice A1 n c1)).setCell ⟨w.heap.size, 2, none⟩ (.slice A2 m c2)) := ⟨_, rfl⟩
    rw [← hX] at hbx hrs hst hbl hw2 ⊢
    clear x1 x2 y0 y1 y2 f1 f2 hX
    have z0 : X.cell? ⟨w.heap.size, 0, none⟩ = some (.int .u64 clock) := blk_cell hbx 0
    have z1 : X.cell? ⟨w.heap.size, 1, none⟩ = some (.slice A1 n c1) := blk_cell hbx 1
    have z2 : X.cell? ⟨w.heap.size, 2, none⟩ = some (.slice A2 m c2) := blk_cell hbx 2
    have r0 : X.cell? ⟨w.heap.size + 1, 0, none⟩ = some (.int .u64 0) := blk_cell hrs 0
    have r1 : X.cell? ⟨w.heap.size + 1, 1, none⟩ = some (.slice none 0 0) := blk_cell hrs 1
    have r2 : X.cell? ⟨w.heap.size + 1, 2, none⟩ = some (.slice none 0 0) := blk_cell hrs 2
    have g0 := blk_frozen hrs 0
    have g1 := blk_frozen hrs 1
    have g2 := blk_frozen hrs 2
    have HRS := Aside0.mk hrs
    have HST := Aside0.mk hst
    have HBL := Aside0.mk hbl
    have HW2 := Aside0.mk hw2
    clear hbx hrs hst hbl hw2
    go_wp2
    have q := set3 HRS.out (.int .u64 clock) (.slice A1 n c1) (.slice A2 m c2)
    have hst3 : ∀ k, k ≠ w.heap.size → k ≠ w.heap.size + 1 → (((X.setCell ⟨w.heap.size + 1, 0, none⟩ (.int .u64 clock)).setCell ⟨w.heap.size + 1, 1, none⟩ (.slice A1 n c1)).setCell ⟨w.heap.size + 1, 2, none⟩ (.slice A2 m c2)).heap[k]? = w2.heap[k]? := fun k h1 h2 => by
      rw [Below.heap_setCell _ ⟨w.heap.size + 1, 2, none⟩ _ k h2, Below.heap_setCell _ ⟨w.heap.size + 1, 1, none⟩ _ k h2, Below.heap_setCell _ ⟨w.heap.size + 1, 0, none⟩ _ k h2]
      exact HST.out k h1
    have hbl : Below w.heap.size w (((X.setCell ⟨w.heap.size + 1, 0, none⟩ (.int .u64 clock)).setCell ⟨w.heap.size + 1, 1, none⟩ (.slice A1 n c1)).setCell ⟨w.heap.size + 1, 2, none⟩ (.slice A2 m c2)) := below_setc (below_setc (below_setc HBL.out (by omega)) (by omega)) (by omega)
    have hwY : Below w.heap.size w2 (((X.setCell ⟨w.heap.size + 1, 0, none⟩ (.int .u64 clock)).setCell ⟨w.heap.size + 1, 1, none⟩ (.slice A1 n c1)).setCell ⟨w.heap.size + 1, 2, none⟩ (.slice A2 m c2)) := below_setc (below_setc (below_setc HW2.out (by omega)) (by omega)) (by omega)
    obtain ⟨Y, hY⟩ : ∃ Y, Y = (((X.setCell ⟨w.heap.size + 1, 0, none⟩ (.int .u64 clock)).setCell ⟨w.heap.size + 1, 1, none⟩ (.slice A1 n c1)).setCell ⟨w.heap.size + 1, 2, none⟩ (.slice A2 m c2)) := ⟨_, rfl⟩
    rw [← hY] at q hst3 hbl hwY ⊢
    have p0 : Y.cell? ⟨w.heap.size + 1, 0, none⟩ = some (.int .u64 clock) := blk_cell q 0
    have p1 : Y.cell? ⟨w.heap.size + 1, 1, none⟩ = some (.slice A1 n c1) := blk_cell q 1
    have p2 : Y.cell? ⟨w.heap.size + 1, 2, none⟩ = some (.slice A2 m c2) := blk_cell q 2
    clear hY z0 z1 z2 r0 r1 r2 g0 g1 g2 q
    refine bodyPost_ret (v := .agg #[.int .u64 clock, .slice A1 n c1, .slice A2 m c2]) (by simp [results, Tryd.results29, go_sem, p0, p1, p2]) rfl ?_
    have hsz2 : ((w.alloc (.cells #[.int .u64 clock, .slice A n c, .slice V m d] 27)).alloc (.cells #[.int .u64 0, .slice none 0 0, .slice none 0 0] 27)).drew.heap.size = w.heap.size + 2 := by
      show ((w.heap.push _).push _).size = _
      rw [Array.size_push, Array.size_push]
    have hq1 := HQ1.out
    have hq2 := HQ2.out
    rw [hsz2] at hq1
    have hw1 : w.heap.size + 2 ≤ w1.heap.size := by have := HB1.out.size; rw [hsz2] at this; exact this
    have hW1Y : Below W.heap.size w1 Y := (HBS.out.mono (Nat.le_trans HB.out.size (by omega))).trans (hwY.mono HB.out.size)
    refine ⟨A1, c1, A2, c2, rfl, hbl, ⟨ub, cur, fun h => ?_, fun i h => (hq1.2.2 i h).to hW1Y⟩, ⟨vb, cuv, fun h => ?_, fun i h => hq2.2.2 i h⟩⟩
    · obtain ⟨e1, e2, e3⟩ := hq1.2.1 h
      exact ⟨⟨by omega, e1⟩, by rw [hst3 ub (by omega) (by omega), HBS.out.block ub (Array.getElem?_eq_some_iff.1 e2).1]; exact e2, e3⟩
    · obtain ⟨e1, e2, e3⟩ := hq2.2.1 h
      exact ⟨⟨by omega, e1⟩, by rw [hst3 vb (by omega) (by omega)]; exact e2, e3⟩
end Go.Proofs.YtnlhomgclplnhaaDoor.E

