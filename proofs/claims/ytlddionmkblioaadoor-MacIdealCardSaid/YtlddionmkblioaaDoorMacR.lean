/- The document's ideal maker: Make. -/
import Derived.Test.YtlddionmkblioaaDoorMacT
namespace Go.Proofs.YtlddionmkblioaaDoor.Pure
open Go.RowKit Go.Proofs.YtlddionmkblioaaDoorW.PrintWords Go.Proofs.YtlddionmkblioaaDoorW.PrintLast Go.Proofs.YtlddionmkblioaaDoorW.PrintMore Go.Proofs.YtlddionmkblioaaDoor.Pr Go.Proofs.YtlddionmkblioaaDoor.E
set_option linter.unusedVariables false
set_option linter.unusedSimpArgs false
attribute [local go_sem] opVal opUpon
/-- The codes of what was made, the newest first. -/
def codesM : List (List Int) → List (List Int)
  | [] => []
  | x :: m => idealC m.length x :: codesM m
theorem codesM_len : ∀ m : List (List Int), (codesM m).length = m.length
  | [] => rfl
  | x :: m => by simp only [codesM, List.length_cons, codesM_len m]
theorem codesM_rows : ∀ m : List (List Int), ∀ c ∈ codesM m, c.length = 32 ∧ ∀ y ∈ c, 0 ≤ y ∧ y ≤ 255
  | [], c, h => by cases h
  | x :: m, c, h => by
    rcases List.mem_cons.1 h with rfl | h
    · exact ⟨idealC_len _ _, idealC_bytes _ _⟩
    · exact codesM_rows m c h
theorem rdR_app_lt {a b : List (List Int)} {k : Nat} (h : k < a.length) : rdR (a ++ b) k = rdR a k := by
  simp only [rdR, Int.toNat_natCast, List.getD_eq_getElem?_getD]
  rw [List.getElem?_append_left h]
theorem rdR_app_eq {a : List (List Int)} {x : List Int} {k : Nat} (h : k = a.length) : rdR (a ++ [x]) k = x := by
  subst h
  simp [rdR, List.getD_eq_getElem?_getD]
theorem icode_at : ∀ m : List (List Int), m.Nodup → ∀ k, k < m.length → icode m (rdR m.reverse k) = some (rdR (codesM m).reverse k)
  | [], _, k, h => by cases h
  | y :: r, hn, k, h => by
    have hn2 := List.nodup_cons.1 hn
    simp only [List.reverse_cons, codesM]
    by_cases hk : k < r.length
    · rw [rdR_app_lt (by rw [List.length_reverse]; exact hk), rdR_app_lt (by rw [List.length_reverse, codesM_len]; exact hk)]
      have hm : rdR r.reverse k ∈ r := List.mem_reverse.1 (rdR_mem (by rw [List.length_reverse]; exact hk))
      show (if y = rdR r.reverse k then some (idealC r.length y) else icode r (rdR r.reverse k)) = _
      rw [if_neg (fun e => hn2.1 (by rw [e]; exact hm))]
      exact icode_at r hn2.2 k hk
    · have hk2 : k = r.length := by simp only [List.length_cons] at h; omega
      rw [rdR_app_eq (by rw [List.length_reverse]; exact hk2), rdR_app_eq (by rw [List.length_reverse, codesM_len]; exact hk2)]
      exact icode_cons_self r y
theorem not_made {m : List (List Int)} {x : List Int} (h : ∀ i < m.length, rdR m.reverse i ≠ x) : x ∉ m := fun hx => by
  obtain ⟨i, hi, e⟩ := List.getElem_of_mem (List.mem_reverse.2 hx)
  refine h i (by rw [List.length_reverse] at hi; exact hi) ?_
  simp only [rdR, Int.toNat_natCast, List.getD_eq_getElem?_getD]
  rw [List.getElem?_eq_getElem hi]
  exact e
structure RefS (base : Nat) (m : List (List Int)) (A2 A3 : Option Addr) (c2 c3 : Nat) (X : World) : Prop where
  hs : Kd.R Kd.string 9 X base (fun _ => True) (.slice A2 m.length c2) (strs m.reverse)
  hc : Kd.R (Kd.slice 5 (Kd.int .u8)) 24 X base (fun _ => True) (.slice A3 m.length c3) (codesM m).reverse
  size : base ≤ X.heap.size
def RMakePost (base : Nat) (m : List (List Int)) (x : List Int) (X : World) (e : Ending) (w' : World) : Prop :=
  ∃ A2 A3 c2 c3 Ac cc, e = .returned (.tuple #[recV A2 A3 (addM m x).length c2 c3, .slice Ac 32 cc]) ∧ RefS base (addM m x) A2 A3 c2 c3 w' ∧ Kd.C (Kd.int .u8) w' Ac 32 (codeM m x) ∧ 32 ≤ cc ∧ Below X.heap.size X w'
theorem RefS.reads {base : Nat} {m : List (List Int)} {A2 A3 : Option Addr} {c2 c3 : Nat} {X : World} (h : RefS base m A2 A3 c2 c3 X) :
    Kd.C Kd.string X A2 m.length (strs m.reverse) ∧ m.length ≤ c2 ∧ Kd.C (Kd.slice 5 (Kd.int .u8)) X A3 m.length (codesM m).reverse ∧ m.length ≤ c3 := by
  have h1 := Kd.R_reads' h.hs
  have h2 := Kd.R_reads' h.hc
  rw [strs_len, List.length_reverse] at h1
  rw [List.length_reverse, codesM_len] at h2
  exact ⟨h1.2.2, h1.2.1, h2.2.2, h2.2.1⟩
theorem RefS.below {base : Nat} {m : List (List Int)} {A2 A3 : Option Addr} {c2 c3 : Nat} {X Y : World} (h : RefS base m A2 A3 c2 c3 X) (hb : Below X.heap.size X Y) : RefS base m A2 A3 c2 c3 Y :=
  ⟨Kd.R_below h.hs hb, Kd.R_below h.hc hb, Nat.le_trans h.size hb.size⟩
theorem RefS.grown {base b : Nat} {m : List (List Int)} {A2 A3 : Option Addr} {c2 c3 : Nat} {X Y : World} (h : RefS base m A2 A3 c2 c3 X) (hg : X.grownBy Y (some b)) (hb : b < base) : RefS base m A2 A3 c2 c3 Y := by
  refine ⟨Kd.R_mono (Kd.R_grown (Kd.R_bound h.hs) hg (fun k hk e => ?_)) (fun _ _ => trivial), Kd.R_mono (Kd.R_grown (Kd.R_bound h.hc) hg (fun k hk e => ?_)) (fun _ _ => trivial), Nat.le_trans h.size hg.size⟩
  · injection e with e; have := hk.2.1; omega
  · injection e with e; have := hk.2.1; omega
theorem set4 {w : World} {g t : Nat} {a b c d : Value} (h : w.heap[g]? = some (.cells #[a, b, c, d] t (0, 0))) (v0 v1 v2 v3 : Value) :
    ((((w.setCell ⟨g, 0, none⟩ v0).setCell ⟨g, 1, none⟩ v1).setCell ⟨g, 2, none⟩ v2).setCell ⟨g, 3, none⟩ v3).heap[g]? = some (.cells #[v0, v1, v2, v3] t (0, 0)) := by
  have h1 := blk_set h 0 v0
  have h2 := blk_set h1 1 v1
  have h3 := blk_set h2 2 v2
  have h4 := blk_set h3 3 v3
  simpa using h4
theorem C_cells {w : World} {A : Option Addr} {l : List Int} {n : Nat} (h : Kd.C (Kd.int .u8) w A n l) (hn : l.length = n) (hp : 0 < n) : ∃ ad, A = some ad ∧ ∀ j u, (l.map (Value.int .u8))[j]? = some u → w.cell? (ad.add j) = some u := by
  obtain ⟨ad, e, _⟩ := Kd.at_int h 0 (by omega) (by omega)
  refine ⟨ad, e, fun j u hj => ?_⟩
  have hj2 : j < l.length := by have := (List.getElem?_eq_some_iff.1 hj).1; simpa using this
  obtain ⟨ad', e', hx⟩ := Kd.at_int h (j : Int) (by omega) (by omega)
  rw [e] at e'
  injection e' with e'
  subst e'
  rw [Int.toNat_natCast] at hx
  rw [List.getElem?_map, List.getElem?_eq_getElem hj2] at hj
  rw [hx, ← hj]
  simp [rd, List.getD_eq_getElem?_getD, hj2]
theorem RefS.rows {base : Nat} {m : List (List Int)} {A2 A3 : Option Addr} {c2 c3 : Nat} {X : World} (h : RefS base m A2 A3 c2 c3 X) :
    ReadsRow ((Kd.slice 5 (Kd.int .u8)).M X base (fun q => True ∧ some q ≠ (Value.slice A3 m.length c3).ownBlock)) (Kd.slice 5 (Kd.int .u8)).sz X A3 m.length (codesM m).reverse := by
  obtain ⟨A, c, e, -, hr⟩ := OwnRow.reads h.hc.2
  injection e with e1 e2 e3
  subst e1
  rw [← e2] at hr
  exact hr
theorem R_set4 {α : Type} {d : Kd α} {e base : Nat} {w : World} {v : Value} {xs : List α} {g t : Nat} {a b c f : Value} (h : d.R e w base (fun _ => True) v xs) (hb : w.heap[g]? = some (.cells #[a, b, c, f] t (0, 0))) (ht : ∀ q, q ∈ e :: d.E → q ≠ t) (v0 v1 v2 v3 : Value) :
    d.R e ((((w.setCell ⟨g, 0, none⟩ v0).setCell ⟨g, 1, none⟩ v1).setCell ⟨g, 2, none⟩ v2).setCell ⟨g, 3, none⟩ v3) base (fun _ => True) v xs :=
  Kd.R_set (Kd.R_set (Kd.R_set (Kd.R_set h hb ht 0 v0) (blk_set hb 0 v0) ht 1 v1) (blk_set (blk_set hb 0 v0) 1 v1) ht 2 v2) (blk_set (blk_set (blk_set hb 0 v0) 1 v1) 2 v2) ht 3 v3
theorem below_set' {B : Nat} {w W : World} (h : Below B w W) {g j : Nat} (hg : B ≤ g) {v : Value} : Below B w (W.setCell ⟨g, j, none⟩ v) :=
  ⟨h.os, h.tape, h.output, by simpa [World.setCell] using h.size, fun k hk => by rw [Below.heap_setCell W ⟨g, j, none⟩ v k (by show k ≠ g; omega)]; exact h.block k hk⟩
set_option maxHeartbeats 8000000 in
set_option maxRecDepth 100000 in
theorem rmake_any (base : Nat) (m : List (List Int)) (A2 A3 : Option Addr) (c2 c3 : Nat) (W : World) (hI : RefS base m A2 A3 c2 c3 W) (hM : ByteRows m) (hnd : m.Nodup) (hml : m.length < 1000000)
    (A0 : Option Addr) (c0 : Nat) (l0 : List Int) (hr0 : Kd.C (Kd.int .u8) W A0 l0.length l0) (hc0 : l0.length ≤ c0) (hb0 : ∀ x ∈ l0, 0 ≤ x ∧ x ≤ 255) (hl0 : l0.length ≤ 900000) :
    Calls Tryd.prog 7 #[recV A2 A3 m.length c2 c3, .slice A0 l0.length c0] W (RMakePost base m l0 W) := by
  obtain ⟨hS, hn2, hC, hn3⟩ := hI.reads
  have HS := Aside0.mk hS
  have HC := Aside0.mk hC
  have HI := Aside0.mk hI
  have HR0 := Aside0.mk hr0
  have HB0 := Aside0.mk hb0
  have HM := Aside0.mk (And.intro hM (And.intro hnd hml))
  obtain ⟨n, hn⟩ : ∃ n, n = m.length := ⟨_, rfl⟩
  have HN := Aside0.mk hn
  have hmx : n < 1000000 := by rw [hn]; exact hml
  rw [← hn] at hn2 hn3 HS HC ⊢
  clear hS hC hI hr0 hb0 hM hn hnd hml
  unfold recV
  go_enter Tryd.func7, Tryd.ntmps7
  go_wp2
  go_loopw [6] (fun v6 wr => ∃ (k : Nat), k ≤ n ∧ v6 = .int .i64 (k : Int) ∧ Aside0 (∀ i < k, rdR m.reverse i ≠ l0) ∧ Aside0 (Below W.heap.size W wr) ∧ Aside0 (wr.heap[W.heap.size]? = some (.cells #[.slice none 0 0, .bool true, .slice A2 n c2, .slice A3 n c3] 32 (0, 0))) ∧ Aside0 (wr.heap[W.heap.size + 1]? = some (.cells #[.slice none 0 0, .bool false, .slice none 0 0, .slice none 0 0] 32 (0, 0)))) (fun v6 _ => n - (intOf v6).toNat)
  case atStart => exact ⟨0, Nat.zero_le _, rfl, ⟨fun i hi => absurd hi (Nat.not_lt_zero i)⟩, ⟨below_alloc (below_alloc (Below.refl _ _) _) _⟩, ⟨(heap_alloc_old (W.alloc (.cells #[.slice none 0 0, .bool true, .slice A2 n c2, .slice A3 n c3] 32)) (.cells #[.slice none 0 0, .bool false, .slice none 0 0, .slice none 0 0] 32) (by show W.heap.size < (W.heap.push _).size; rw [Array.size_push]; exact Nat.lt_succ_self _)).trans (heap_alloc_new W _)⟩, ⟨by have h := heap_alloc_new (W.alloc (.cells #[.slice none 0 0, .bool true, .slice A2 n c2, .slice A3 n c3] 32)) (.cells #[.slice none 0 0, .bool false, .slice none 0 0, .slice none 0 0] 32); simpa using h⟩⟩
  case round =>
    obtain ⟨k, hk, rfl, HP, HB, HO, HO2⟩ := hrel
    have t0 : wr.cell? ⟨W.heap.size, 0, none⟩ = some (.slice none 0 0) := blk_cell HO.out 0
    have t1 : wr.cell? ⟨W.heap.size, 1, none⟩ = some (.bool true) := blk_cell HO.out 1
    have t2 : wr.cell? ⟨W.heap.size, 2, none⟩ = some (.slice A2 n c2) := blk_cell HO.out 2
    have t3 : wr.cell? ⟨W.heap.size, 3, none⟩ = some (.slice A3 n c3) := blk_cell HO.out 3
    by_cases hlt : k < n
    · have hz : (k : Int) < (n : Int) := by omega
      have hz2 : decide ((k : Int) < (n : Int)) = true := decide_eq_true hz
      have HLT := Aside0.mk hlt
      obtain ⟨ad2, rfl, hx⟩ := at_SS (Kd.C_below HS.out HB.out) k hlt
      have h32 := (codesM_rows m _ (List.mem_reverse.1 (rdR_mem (l := (codesM m).reverse) (k := k) (by rw [List.length_reverse, codesM_len, ← HN.out]; exact hlt)))).1
      obtain ⟨ad3, A4, c4, rfl, hyW, hc4, hrW⟩ := at_LL HC.out (k : Int) (by omega) (by omega)
      have hyW' : W.cell? (ad3.add k) = some (.slice A4 32 c4) := by rw [← h32]; simpa using hyW
      have hrW' : Kd.C (Kd.int .u8) W A4 32 (rdR (codesM m).reverse k) := by rw [← h32]; simpa using hrW
      have hc4' : 32 ≤ c4 := by rw [← h32]; simpa using hc4
      have hy' := pw_cell_below HB.out hyW'
      have HY := Aside0.mk hyW'
      have HRW := Aside0.mk hrW'
      clear hyW hyW' hrW hrW' hc4 h32
      have hs0 := fun m => Kd.C_string (P := Tryd.prog) (c := c0) Tryd.underlying24 Tryd.underlying5 Tryd.underlying9 (Kd.C_below HR0.out (pw_below_drewN HB.out m))
      have hm1 : ∀ y ∈ rdR m.reverse k, 0 ≤ y ∧ y ≤ 255 := (HM.out.1 _ (List.mem_reverse.1 (rdR_mem (by rw [List.length_reverse, ← HN.out]; exact hlt)))).1
      have hat := icode_at m HM.out.2.1 k (by rw [← HN.out]; exact hlt)
      have HQ : Aside0 (rdR m.reverse k ≠ l0 → ∀ i < k + 1, rdR m.reverse i ≠ l0) := ⟨fun hne i hi => by
        rcases Nat.lt_succ_iff_lt_or_eq.1 hi with h | rfl
        · exact HP.out i h
        · exact hne⟩
      obtain ⟨M, hMk⟩ : ∃ M, M = rdR m.reverse k := ⟨_, rfl⟩
      obtain ⟨C, hCk⟩ : ∃ C, C = rdR (codesM m).reverse k := ⟨_, rfl⟩
      rw [← hMk] at hx hm1 hat HQ
      rw [← hCk] at hat HRW
      have HH := Aside0.mk hm1
      have HT := Aside0.mk hat
      clear hm1 hMk hCk hat
      by_cases hd : M = l0
      · subst hd
        have e1 : ((strOfNums M).toList == (strOfNums M).toList) = true := beq_self_eq_true _
        go_wp2
        go_quiet (fail)
        go_wp2
        have u0 : wr.cell? ⟨W.heap.size + 1, 0, none⟩ = some (.slice none 0 0) := blk_cell HO2.out 0
        have u1 : wr.cell? ⟨W.heap.size + 1, 1, none⟩ = some (.bool false) := blk_cell HO2.out 1
        have u2 : wr.cell? ⟨W.heap.size + 1, 2, none⟩ = some (.slice none 0 0) := blk_cell HO2.out 2
        have u3 : wr.cell? ⟨W.heap.size + 1, 3, none⟩ = some (.slice none 0 0) := blk_cell HO2.out 3
        have fz : ∀ j, wr.frozen? ⟨W.heap.size + 1, j, none⟩ = false := fun j => by simp [World.frozen?, HO2.out]
        have z0 := fz 0
        have z1 := fz 1
        have z2 := fz 2
        have z3 := fz 3
        clear fz
        have hw4 : Below W.heap.size W (((((wr.drewN (nq + 1)).setCell ⟨W.heap.size + 1, 0, none⟩ (.slice none 0 0)).setCell ⟨W.heap.size + 1, 1, none⟩ (.bool true)).setCell ⟨W.heap.size + 1, 2, none⟩ (.slice (some ad2) n c2)).setCell ⟨W.heap.size + 1, 3, none⟩ (.slice (some ad3) n c3)) := below_set' (below_set' (below_set' (below_set' (pw_below_drewN HB.out (nq + 1)) (Nat.le_succ _)) (Nat.le_succ _)) (Nat.le_succ _)) (Nat.le_succ _)
        have hy4 := pw_cell_below hw4 HY.out
        have HW4 := Aside0.mk hw4
        clear hw4
        go_region
        go_wp2
        have q := set4 (w := wr.drewN (nq + 1)) HO2.out (.slice none 0 0) (.bool true) (.slice (some ad2) n c2) (.slice (some ad3) n c3)
        obtain ⟨X, hX⟩ : ∃ X, X = (((((wr.drewN (nq + 1)).setCell ⟨W.heap.size + 1, 0, none⟩ (.slice none 0 0)).setCell ⟨W.heap.size + 1, 1, none⟩ (.bool true)).setCell ⟨W.heap.size + 1, 2, none⟩ (.slice (some ad2) n c2)).setCell ⟨W.heap.size + 1, 3, none⟩ (.slice (some ad3) n c3)) := ⟨_, rfl⟩
        rw [← hX] at q HW4 ⊢
        have r0 : X.cell? ⟨W.heap.size + 1, 0, none⟩ = some (.slice none 0 0) := blk_cell q 0
        have r1 : X.cell? ⟨W.heap.size + 1, 1, none⟩ = some (.bool true) := blk_cell q 1
        have r2 : X.cell? ⟨W.heap.size + 1, 2, none⟩ = some (.slice (some ad2) n c2) := blk_cell q 2
        have r3 : X.cell? ⟨W.heap.size + 1, 3, none⟩ = some (.slice (some ad3) n c3) := blk_cell q 3
        clear hX t0 t1 t2 t3 u0 u1 u2 u3 z0 z1 z2 z3
        have hu46 := Tryd.underlying32
        refine bodyPost_ret (v := .tuple #[.agg #[.slice none 0 0, .bool true, .slice (some ad2) n c2, .slice (some ad3) n c3], .slice A4 32 c4]) (by simp [results, Tryd.results7, go_sem, r0, r1, r2, r3]) rfl ?_
        have ha : addM m M = m := if_pos (icode_mem HT.out)
        have hcm : codeM m M = C := by unfold codeM; rw [HT.out]; rfl
        rw [RMakePost, ha, hcm, ← HN.out]
        exact ⟨some ad2, some ad3, c2, c3, A4, c4, rfl, (by have h := HI.out.below HW4.out; exact h), Kd.C_below HRW.out HW4.out, hc4', HW4.out⟩
      · have hd2 := strOfNums_ne HH.out HB0.out hd
        go_wp2
        go_quiet (fail)
        go_wp2
        go_roundw
        case rel => exact ⟨k + 1, HLT.out, by go_num, ⟨HQ.out hd⟩, ⟨pw_below_drewN HB.out _⟩, HO, HO2⟩
        case measure => have := HLT.out; simp [intOf]; omega
    · have hz : ¬ (k : Int) < (n : Int) := by omega
      have hz2 : decide ((k : Int) < (n : Int)) = false := decide_eq_false hz
      obtain rfl : k = n := by omega
      have hnm : l0 ∉ m := not_made (by rw [← HN.out]; exact HP.out)
      have kc := Lib.run_convert_bytes_const (P := Tryd.prog) wr 24 5 #[.int .u8 105, .int .u8 100, .int .u8 101, .int .u8 97, .int .u8 108] 5 5 Tryd.underlying24 Tryd.underlying5
      have hlit := lit_C wr [105, 100, 101, 97, 108] (5, 6) (by simp)
      have hX8 : Below wr.heap.size wr (wr.alloc (.cells #[.int .u8 105, .int .u8 100, .int .u8 101, .int .u8 97, .int .u8 108] 5 (5, 6))) := below_alloc (Below.refl _ _) _
      have t2' := pw_cell_below hX8 t2
      have HPUT := Aside0.mk (fun X : World => wicketmanref01_Put.calls 50 (k : Int) 8 (beN k 8) X (ref_put8 k (by omega) 50 (Nat.le_refl _)))
      have HX8 := Aside0.mk hX8
      have HLIT := Aside0.mk hlit
      have HNM := Aside0.mk hnm
      have T2 := Aside0.mk t2
      have T3 := Aside0.mk t3
      clear hlt hX8 hlit hnm t0 t3
      obtain ⟨i5, hi5, hz5⟩ := Option.map_eq_some_iff.1 info5b
      simp only [Prod.mk.injEq] at hz5
      obtain ⟨hz50, hz51, hz52⟩ := hz5
      have HI5 := Aside0.mk (And.intro hi5 (And.intro hz50 (And.intro hz51 hz52)))
      clear hi5 hz50 hz51 hz52
      go_wp2_with (first | (go_at_call 11; ((with_reducible refine (HPUT.out _).mono ?_)); rintro e w1 ⟨v1, rfl, hR1, hb1⟩; have hbn : (beN k 8).length = 8 := rfl; obtain ⟨B1, d1, rfl⟩ := R_form4 hR1 hbn; have h1 := Kd.R_reads' hR1; rw [hbn] at h1; have HX1 := Aside0.mk (below_step HX8.out hb1); obtain ⟨aB, rfl, hnew⟩ := C_cells h1.2.2 rfl (by decide); obtain ⟨aL, haL, hold⟩ := C_cells (Kd.C_below HLIT.out hb1) rfl (by decide); injection haL with haL; have HOLD := Aside0.mk (show ∀ b, (some ⟨wr.heap.size, 0, none⟩ : Option Addr) = some b → ∀ j u, ([105, 100, 101, 97, 108].map (Value.int .u8))[j]? = some u → w1.cell? (b.add j) = some u from fun b e => by injection e with e; subst e; rw [haL]; exact hold); have HNEW := Aside0.mk hnew; clear hR1 hb1 h1 hnew hold haL t2' kc t1 t2 hbn) | (at_builtin; refine wpList_append_grows _ rfl (.tmp 48) (.tmp 49) 24 rfl 5 i5 (.int .u8 0) 1 1 Tryd.underlying24 HI5.out.1 HI5.out.2.1 HI5.out.2.2.1 HI5.out.2.2.2 rfl (by decide) (some ⟨wr.heap.size, 0, none⟩) 5 5 ([105, 100, 101, 97, 108].map (Value.int .u8)) rfl (by intro h; cases h) rfl HOLD.out aB 8 d1 ((beN k 8).map (Value.int .u8)) rfl rfl HNEW.out (by intro u hu; obtain ⟨z, -, rfl⟩ := List.mem_map.1 hu; rfl) (by decide) (by decide) (by decide) ?_))
      intro v2 w2 hown hgr
      have hR2 : Kd.R (Kd.int .u8) 5 w2 w1.heap.size (fun _ => True) v2 ([105, 100, 101, 97, 108] ++ beN k 8) := Kd.R_of_own (by exact hown) (fun _ _ => trivial)
      have HX2 := Aside0.mk (HX1.out.grown hgr HX1.out.size (by intro k e; cases e))
      obtain ⟨A5, c5, rfl⟩ := R_form4 (n := 13) hR2 rfl
      obtain ⟨P, hP⟩ : ∃ P : List Int, P = [105, 100, 101, 97, 108] ++ beN k 8 := ⟨_, rfl⟩
      have hP13 : P.length = 13 := by rw [hP]; rfl
      have HPP := Aside0.mk hP
      have HP13 := Aside0.mk hP13
      rw [← hP] at hR2
      have HR2 := Aside0.mk (Kd.R_lower hR2 HX1.out.size)
      have HBR := Aside0.mk (show base ≤ wr.heap.size from Nat.le_trans HI.out.size HB.out.size)
      obtain ⟨L, hL⟩ : ∃ L, L = P ++ l0 := ⟨_, rfl⟩
      have HL := Aside0.mk hL
      have HW2 := Aside0.mk (below_step HB.out HX2.out)
      clear hown hgr hR2 hL hP hP13 HX1 HX8 HLIT HOLD HNEW HPUT HI5 hz
      go_wp2_with (at_builtin; refine Kd.R_append_rows (Kd.int .u8) (w0 := wr) wr.heap.size rfl (.tmp 51) (.tmp 52) 24 5 (.int .u8 0) 1 rfl Tryd.underlying24 info5b rfl (by decide) (by omega) (.slice A5 13 c5) P l0 _ _ _ (fun _ => True) (fun _ => False) rfl rfl HR2.out (Kd.C_below HR0.out HW2.out) (fun _ _ h => h) (fun _ h => h.elim) (fun _ _ => trivial) HX2.out HX2.out.size (by rw [HP13.out]; omega) ?_)
      intro v3 w3 hR3 hb3 _ _
      rw [← HL.out] at hR3
      obtain ⟨A6, c6, rfl, hl6, hC6⟩ := Kd.R_reads hR3
      have hLl : L.length = 13 + l0.length := by rw [HL.out, List.length_append, HP13.out]
      have hLb : ∀ x ∈ L, 0 ≤ x ∧ x ≤ 255 := by rw [HL.out, HPP.out]; exact bytes_app (bytes_app (by decide) (beN_BL _ _)) HB0.out
      have hsum := rsum_any A6 c6 L w3 hC6 hl6 (by omega) hLb
      have HD : Aside0 (shaL L = idealC k l0) := ⟨by rw [HL.out, HPP.out, List.append_assoc]; rfl⟩
      have h32 := shaL_len L
      obtain ⟨D, hD⟩ : ∃ D, D = shaL L := ⟨_, rfl⟩
      rw [← hD] at HD h32 hsum
      have HSUM := Aside0.mk hsum
      have HX3 := Aside0.mk hb3
      have H32 := Aside0.mk h32
      clear hR3 hb3 hC6 hl6 hLl hLb hsum hD h32 HR2 HX2 HW2
      go_wp2_with (first | (go_at_call 12; ((with_reducible refine (HSUM.out).mono ?_)); rintro e w4 ⟨v4, rfl, hR4, hb4⟩; obtain ⟨A7, c7, rfl⟩ := R_form4 hR4 H32.out; have HX4 := Aside0.mk (below_step HX3.out hb4); have HR4 := Aside0.mk (Kd.R_mono (Kd.R_bound (Kd.R_lower hR4 (Nat.le_trans HBR.out HX3.out.size))) (ok' := fun q => q < w4.heap.size) (fun q hq => hq.2.2.1)); have HS4 := Aside0.mk HX4.out.size; have t2 := pw_cell_below HX4.out T2.out; clear hR4 hb4) | (at_builtin; refine Kd.R_append_rows Kd.string (w0 := wr) base rfl (.tmp 56) (.tmp 58) 30 9 (.string ⟨#[]⟩) 16 rfl Tryd.underlying30 info9 rfl (by decide) (by omega) (.slice none 0 0) ([] : List ByteArray) (strs m.reverse) _ _ _ (fun _ => True) (fun _ => False) rfl rfl (Kd.R_nil _ _ _ _ _) (Kd.C_below HS.out (below_step HB.out HX4.out)) (fun _ _ h => h) (fun _ h => h.elim) (fun _ _ => trivial) (HX4.out.mono HBR.out) (Nat.le_trans HBR.out HX4.out.size) (by show (0 + k) * 16 ≤ _; omega) ?_))
      intro v5 w5 hR5 _ hg5 hat5
      have HAT5 : Aside0 (∀ q, v5.ownBlock = some q → w4.heap.size ≤ q) := ⟨fun q e => by
        rcases hat5 with h | ⟨b, h, hb⟩
        · rw [h] at e; cases e
        · rw [h] at e; injection e with e; omega⟩
      clear hat5
      have HX5 := Aside0.mk (HX4.out.grown hg5 HX4.out.size (by intro k e; cases e))
      have hl5 : (strs m.reverse).length = k := by rw [strs_len, List.length_reverse, ← HN.out]
      obtain ⟨A8, c8, rfl⟩ : ∃ A c, v5 = .slice A k c := by
        obtain ⟨inner, ho⟩ := Kd.R_own hR5
        rw [hl5] at ho
        exact own_slice ho
      have HR5 := Aside0.mk hR5
      have HR45 := Aside0.mk (Kd.R_grown HR4.out hg5 (fun _ _ e => by cases e))
      have HR45S := Aside0.mk hg5.size
      have hst := Kd.C_string (P := Tryd.prog) (c := c0) Tryd.underlying24 Tryd.underlying5 Tryd.underlying9 (Kd.C_below HR0.out (below_step HB.out HX5.out))
      have HL5 := Aside0.mk hl5
      clear hR5 hg5 t2 hl5 HSUM HX3 HX4 HR4
      go_wp2_with (at_builtin; refine Kd.R_append Kd.string (w0 := wr) base rfl (.tmp 60) (.tmp 63) 30 9 (.string ⟨#[]⟩) 16 rfl Tryd.underlying30 info9 rfl (by decide) (by omega) (.slice A8 k c8) (strs m.reverse) (strOfNums l0) [.string (strOfNums l0)] (fun _ => True) (fun _ => False) rfl rfl rfl (fun _ h => h.elim) (fun _ _ => trivial) HR5.out (HX5.out.mono HBR.out) (Nat.le_trans HBR.out HX5.out.size) (by rw [HL5.out]; omega) ?_)
      intro v6 w6 hR6 _ hg6 _
      have HX6 := Aside0.mk (HX5.out.grown hg6 HX5.out.size (fun q e => Nat.le_trans HS4.out (HAT5.out q e)))
      have HR46 := Aside0.mk (Kd.R_grown HR45.out hg6 (fun q hq e => absurd (HAT5.out q e.symm) (Nat.not_le.2 hq)))
      have hl6 : (strs m.reverse ++ [strOfNums l0]).length = k + 1 := by rw [List.length_append, HL5.out]; rfl
      obtain ⟨A9, c9, rfl⟩ : ∃ A c, v6 = .slice A (k + 1) c := by
        obtain ⟨inner, ho⟩ := Kd.R_own hR6
        rw [hl6] at ho
        exact own_slice ho
      have HR6 := Aside0.mk (Kd.R_mono (Kd.R_bound hR6) (ok' := fun q => q < w6.heap.size) (fun q hq => hq.2.2.1))
      have HS6 := Aside0.mk (show w4.heap.size ≤ w6.heap.size from Nat.le_trans (HR45S.out) hg6.size)
      have hrows := (HI.out.below (below_step HB.out HX6.out)).rows
      rw [← HN.out] at hrows
      have HROWS := Aside0.mk hrows
      have t3 := pw_cell_below HX6.out T3.out
      clear hR6 hg6 hl6 hrows hst HR5 HR45 HX5
      go_wp2_with (at_builtin; refine Kd.R_append_rows (Kd.slice 5 (Kd.int .u8)) (w0 := wr) base rfl (.tmp 65) (.tmp 67) 22 24 (.slice none 0 0) 24 rfl Tryd.underlying22 info22 rfl (by decide) (by omega) (.slice none 0 0) ([] : List (List Int)) (codesM m).reverse _ _ _ (fun _ => True) (fun q => True ∧ some q ≠ (Value.slice A3 k c3).ownBlock) rfl rfl (Kd.R_nil _ _ _ _ _) HROWS.out (fun _ _ h => h) (fun _ _ => ⟨trivial, fun e => by cases e⟩) (fun _ _ => trivial) (HX6.out.mono HBR.out) (Nat.le_trans HBR.out HX6.out.size) (by show (0 + k) * 24 ≤ _; omega) ?_)
      intro v7 w7 hR7 _ hg7 hat7
      have HAT7 : Aside0 (∀ q, v7.ownBlock = some q → w6.heap.size ≤ q) := ⟨fun q e => by
        rcases hat7 with h | ⟨b, h, hb⟩
        · rw [h] at e; cases e
        · rw [h] at e; injection e with e; omega⟩
      have HX7 := Aside0.mk (HX6.out.grown hg7 HX6.out.size (by intro q e; cases e))
      have HR47 := Aside0.mk (Kd.R_grown HR46.out hg7 (fun _ _ e => by cases e))
      have HR67 := Aside0.mk (Kd.R_grown HR6.out hg7 (fun _ _ e => by cases e))
      have hl7 : (codesM m).reverse.length = k := by rw [List.length_reverse, codesM_len, ← HN.out]
      obtain ⟨A10, c10, rfl⟩ : ∃ A c, v7 = .slice A k c := by
        obtain ⟨inner, ho⟩ := Kd.R_own hR7
        rw [hl7] at ho
        exact own_slice ho
      have HR7 := Aside0.mk hR7
      have HL7 := Aside0.mk hl7
      clear hR7 hg7 hat7 hl7 HROWS t3 HR46 HR6 HX6
      go_wp2_with (at_builtin; refine Kd.R_append (Kd.slice 5 (Kd.int .u8)) (w0 := wr) base rfl (.tmp 69) (.tmp 71) 22 24 (.slice none 0 0) 24 rfl Tryd.underlying22 info22 rfl (by decide) (by omega) (.slice A10 k c10) (codesM m).reverse D [.slice A7 32 c7] (fun _ => True) (fun q => q < w4.heap.size) rfl rfl ⟨_, rfl, HR47.out⟩ (fun q hq => ⟨trivial, fun e => absurd (Nat.le_trans HS6.out (HAT7.out q e.symm)) (Nat.not_le.2 hq)⟩) (fun _ _ => trivial) HR7.out (HX7.out.mono HBR.out) (Nat.le_trans HBR.out HX7.out.size) (by rw [HL7.out]; omega) ?_)
      intro v8 w8 hR8 _ hg8 _
      have HX8 := Aside0.mk (HX7.out.grown hg8 HX7.out.size (fun q e => Nat.le_trans HS4.out (Nat.le_trans HS6.out (HAT7.out q e))))
      have HR48 := Aside0.mk (Kd.R_grown HR47.out hg8 (fun q hq e => absurd (Nat.le_trans HS6.out (HAT7.out q e.symm)) (Nat.not_le.2 hq)))
      have HR68 := Aside0.mk (Kd.R_grown HR67.out hg8 (fun q hq e => absurd (HAT7.out q e.symm) (Nat.not_le.2 hq)))
      have hl8 : ((codesM m).reverse ++ [D]).length = k + 1 := by rw [List.length_append, HL7.out]; rfl
      obtain ⟨A11, c11, rfl⟩ : ∃ A c, v8 = .slice A (k + 1) c := by
        obtain ⟨inner, ho⟩ := Kd.R_own hR8
        rw [hl8] at ho
        exact own_slice ho
      have HR8 := Aside0.mk hR8
      clear hR8 hg8 hl8 HR47 HR67 HR7 HX7
      have o2 := (HX8.out.block (W.heap.size + 1) (Array.getElem?_eq_some_iff.1 HO2.out).1).trans HO2.out
      have O2 := Aside0.mk o2
      have u0 : w8.cell? ⟨W.heap.size + 1, 0, none⟩ = some (.slice none 0 0) := blk_cell o2 0
      have u1 : w8.cell? ⟨W.heap.size + 1, 1, none⟩ = some (.bool false) := blk_cell o2 1
      have u2 : w8.cell? ⟨W.heap.size + 1, 2, none⟩ = some (.slice none 0 0) := blk_cell o2 2
      have u3 : w8.cell? ⟨W.heap.size + 1, 3, none⟩ = some (.slice none 0 0) := blk_cell o2 3
      have z0 := blk_frozen o2 0
      have z1 := blk_frozen o2 1
      have z2 := blk_frozen o2 2
      have z3 := blk_frozen o2 3
      clear o2
      go_wp2
      have q := set4 (w := w8) O2.out (.slice none 0 0) (.bool true) (.slice A9 (k + 1) c9) (.slice A11 (k + 1) c11)
      have hB := below_set' (below_set' (below_set' (below_set' (below_step HB.out HX8.out) (Nat.le_succ _) (j := 0) (v := .slice none 0 0)) (Nat.le_succ _) (j := 1) (v := .bool true)) (Nat.le_succ _) (j := 2) (v := .slice A9 (k + 1) c9)) (Nat.le_succ _) (j := 3) (v := .slice A11 (k + 1) c11)
      have hS := R_set4 (Kd.R_mono HR68.out (fun _ _ => trivial)) O2.out (by decide) (.slice none 0 0) (.bool true) (.slice A9 (k + 1) c9) (.slice A11 (k + 1) c11)
      have hC := R_set4 HR8.out O2.out (by decide) (.slice none 0 0) (.bool true) (.slice A9 (k + 1) c9) (.slice A11 (k + 1) c11)
      have hR := R_set4 (Kd.R_mono HR48.out (fun _ _ => trivial)) O2.out (by decide) (.slice none 0 0) (.bool true) (.slice A9 (k + 1) c9) (.slice A11 (k + 1) c11)
      obtain ⟨X, hX⟩ : ∃ X, X = ((((w8.setCell ⟨W.heap.size + 1, 0, none⟩ (.slice none 0 0)).setCell ⟨W.heap.size + 1, 1, none⟩ (.bool true)).setCell ⟨W.heap.size + 1, 2, none⟩ (.slice A9 (k + 1) c9)).setCell ⟨W.heap.size + 1, 3, none⟩ (.slice A11 (k + 1) c11)) := ⟨_, rfl⟩
      rw [← hX] at q hB hS hC hR ⊢
      have r0 : X.cell? ⟨W.heap.size + 1, 0, none⟩ = some (.slice none 0 0) := blk_cell q 0
      have r1 : X.cell? ⟨W.heap.size + 1, 1, none⟩ = some (.bool true) := blk_cell q 1
      have r2 : X.cell? ⟨W.heap.size + 1, 2, none⟩ = some (.slice A9 (k + 1) c9) := blk_cell q 2
      have r3 : X.cell? ⟨W.heap.size + 1, 3, none⟩ = some (.slice A11 (k + 1) c11) := blk_cell q 3
      clear hX u0 u1 u2 u3 z0 z1 z2 z3
      have hu46 := Tryd.underlying32
      refine bodyPost_ret (v := .tuple #[.agg #[.slice none 0 0, .bool true, .slice A9 (k + 1) c9, .slice A11 (k + 1) c11], .slice A7 32 c7]) (by simp [results, Tryd.results7, go_sem, r0, r1, r2, r3]) rfl ?_
      have ha : addM m l0 = l0 :: m := if_neg HNM.out
      have hcm : codeM m l0 = D := by
        unfold codeM
        rw [(icode_none_iff l0 m).2 HNM.out, HD.out, HN.out]
        rfl
      have hr := Kd.R_reads' hR
      rw [H32.out] at hr
      have e1 : strs (l0 :: m).reverse = strs m.reverse ++ [strOfNums l0] := by simp [strs]
      have e2 : (codesM (l0 :: m)).reverse = (codesM m).reverse ++ [D] := by rw [HD.out, HN.out]; simp [codesM]
      have e3 : (l0 :: m).length = k + 1 := by rw [List.length_cons, ← HN.out]
      refine ⟨A9, A11, c9, c11, A7, c7, ?_, ⟨?_, ?_, ?_⟩, ?_, ?_, ?_⟩
      · rw [ha, e3]; rfl
      · rw [ha, e3, e1]; exact hS
      · rw [ha, e3, e2]; exact hC
      · exact Nat.le_trans HI.out.size hB.size
      · rw [hcm]; exact hr.2.2
      · exact hr.2.1
      · exact hB
end Go.Proofs.YtlddionmkblioaaDoor.Pure

