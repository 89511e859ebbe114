/- mac.pad by hand. -/
import Derived.Test.YtfmdpkilgnccfaaDoorRep
namespace Go.Proofs.YtfmdpkilgnccfaaDoor.E
open Go.RowKit Go.Proofs.YtfmdpkilgnccfaaDoorW.PrintWords Go.Proofs.YtfmdpkilgnccfaaDoorW.PrintLast Go.Proofs.YtfmdpkilgnccfaaDoorW.PrintMore Go.Proofs.YtfmdpkilgnccfaaDoor.Pr
set_option linter.unusedVariables false
set_option linter.unusedSimpArgs false
/-- A row of bytes that is read. -/
def RowB (P : List Int) (v : Value) (w : World) : Prop := ∃ B d, v = .slice B P.length d ∧ Kd.C (Kd.int .u8) w B P.length P ∧ P.length ≤ d
theorem RowB.sp (P : List Int) : SpBelow (RowB P) := fun v w w' h hb =>
  let ⟨B, d, e, hC, hd⟩ := h
  ⟨B, d, e, Kd.C_below hC hb, hd⟩
theorem RowB.of_R {P : List Int} {w : World} {n : Nat} {v : Value} (h : Kd.R (Kd.int .u8) 5 w n (fun _ => True) v P) : RowB P v w := by
  obtain ⟨B, d, rfl, hl, hC⟩ := Kd.R_reads h
  exact ⟨B, d, rfl, hC, hl⟩
theorem xor8 (a b : Nat) (ha : a < 256) (hb : b < 256) : bits .xor .u8 (a : Int) (b : Int) = ((a ^^^ b : Nat) : Int) := by
  have hb' : (2 : Nat) ^ IntKind.u8.bits = 256 := rfl
  have hx : a ^^^ b < 256 := Nat.xor_lt_two_pow (n := 8) ha hb
  simp only [bits, BitVec.ofInt_natCast, BitVec.toNat_xor, BitVec.toNat_ofNat, hb', Nat.mod_eq_of_lt ha, Nat.mod_eq_of_lt hb]
  rw [IntKind.wrap_u8]; omega
def keyL (l : List Int) : List Int := if l.length ≤ 64 then l else shaL l
def padK (l : List Int) (c : Nat) : List Int := (List.range 64).map fun i => ((((keyL l).getD i 0).toNat ^^^ c : Nat) : Int)
theorem padK_len (l : List Int) (c : Nat) : (padK l c).length = 64 := by simp [padK]
theorem keyL_bytes {l : List Int} (h : ∀ x ∈ l, 0 ≤ x ∧ x ≤ 255) : ∀ x ∈ keyL l, 0 ≤ x ∧ x ≤ 255 := by
  unfold keyL
  split
  · exact h
  · exact shaL_bytes l
theorem keyL_le (l : List Int) : (keyL l).length ≤ 64 := by
  unfold keyL
  split
  · assumption
  · rw [shaL_len]; decide
theorem padK_bytes {l : List Int} (h : ∀ x ∈ l, 0 ≤ x ∧ x ≤ 255) {c : Nat} (hc : c < 256) : ∀ x ∈ padK l c, 0 ≤ x ∧ x ≤ 255 := by
  intro x hx
  obtain ⟨i, _, rfl⟩ := List.mem_map.1 hx
  have hk : ((keyL l).getD i 0).toNat < 256 := by
    rw [List.getD_eq_getElem?_getD]
    cases hg : (keyL l)[i]? with
    | none => decide
    | some y => have := keyL_bytes h y (List.mem_of_getElem? hg); simp only [Option.getD_some]; omega
  have := Nat.xor_lt_two_pow (n := 8) hk hc
  omega
theorem row_of_cells (X : World) (g : Nat) (cur : List Value) (l : List Int) (hg : X.heap[g]? = some (.cells cur.toArray 5 (0, 0))) (hl : l.length ≤ 1000) (h : ∀ j, j < l.length → cur[j]? = some (.int .u8 (l.getD j 0))) : Kd.C (Kd.int .u8) X (some ⟨g, 0, none⟩) l.length l := by
  refine Kd.C_of_reads (d := (0 : Int)) (h1 := fun _ => rfl) ⟨rfl, by omega, fun hn => ⟨_, rfl, fun j hj => ?_⟩⟩
  rw [add_plain, cell_of_row X g j _ _ _ hg]
  simpa using h j hj
/-- The pad, so many bytes of the key laid over it. -/
def PadAt (w : World) (kl : List Int) (c i : Nat) (X : World) : Prop := Below w.heap.size w X ∧ ∃ cur : List Value, X.heap[w.heap.size]? = some (.cells cur.toArray 5 (0, 0)) ∧ 64 ≤ cur.length ∧
  ∀ j, j < 64 → cur[j]? = some (.int .u8 (if j < i then (((kl.getD j 0).toNat ^^^ c : Nat) : Int) else (c : Int)))
set_option maxRecDepth 100000 in
set_option maxHeartbeats 8000000 in
theorem pad_any (A : Option Addr) (c0 : Nat) (l : List Int) (cc : Nat) (hcc : cc < 256) (W : World) (hr : Kd.C (Kd.int .u8) W A l.length l) (hc : l.length ≤ c0) (hb : ∀ x ∈ l, 0 ≤ x ∧ x ≤ 255) (hl : l.length ≤ 1000000) (hG : RootsIn W) :
    Calls Tryd.prog 54 #[.slice A l.length c0, .int .u8 (cc : Int)] W fun e w' => ∃ v, e = .returned v ∧ RowB (padK l cc) v w' ∧ Below W.heap.size W w' := by
  have hpk : padK l cc = (List.range 64).map fun i => ((((keyL l).getD i 0).toNat ^^^ cc : Nat) : Int) := rfl
  have hkb := keyL_bytes hb
  have hkl := keyL_le l
  have HR := Aside0.mk hr
  by_cases h64 : l.length ≤ 64
  · have h3 : ¬ (64 : Int) < (l.length : Int) := by omega
    have hke : keyL l = l := if_pos h64
    rw [hke] at hpk hkb hkl
    obtain ⟨PD, hPD⟩ : ∃ P, P = padK l cc := ⟨_, rfl⟩
    rw [← hPD] at hpk ⊢
    have HPK := Aside0.mk hpk
    have HKB := Aside0.mk hkb
    obtain ⟨kl, hkle⟩ : ∃ kl, kl = l := ⟨_, rfl⟩
    have HB0 := Aside0.mk (Below.refl W.heap.size W)
    have HCK := Aside0.mk hr
    obtain ⟨n, hn⟩ : ∃ n, n = l.length := ⟨_, rfl⟩
    rw [← hn] at HCK hkl h3 ⊢
    rw [← hkle] at HPK HKB HCK
    have hnl : n = kl.length := by rw [hn, hkle]
    have HNL := Aside0.mk hnl
    clear hr hb hG hc hl h64 hpk hkb hke hPD hkle hn hnl
    go_enter Tryd.func54, Tryd.ntmps54
    obtain ⟨B, hBA⟩ : ∃ B, B = A := ⟨_, rfl⟩
    rw [← hBA] at HCK ⊢
    clear hBA
    have hrep := fun (X : World) => rep64 (some ⟨X.heap.size, 0, none⟩) 1 (cc : Int) (X.alloc (.cells #[.int .u8 (cc : Int)] 5)) (lit_C X [(cc : Int)] (0, 0) (by simp))
    have HREP := Aside0.mk hrep
    clear hrep
    go_wp2_with (go_at_call 64; ((with_reducible refine (HREP.out _).mono ?_); rintro e w3 ⟨rfl, hp⟩); have HPR := Aside0.mk hp; clear hp)
    obtain ⟨Wb, hWb⟩ : ∃ Wb, Wb = W.alloc (.cells #[.int .u8 (cc : Int)] 5) := ⟨_, rfl⟩
    have hszb : Wb.heap.size = W.heap.size + 1 := by rw [hWb, World.size_alloc]
    have hp0 : PadAt Wb kl cc 0 w3 := by
      rw [hWb]
      obtain ⟨h1, cur, h2, h3, h4⟩ := HPR.out
      exact ⟨h1, cur, h2, h3, fun j hj => by rw [if_neg (by omega)]; exact h4 j hj⟩
    have HBb : Aside0 (Below W.heap.size W Wb) := ⟨by rw [hWb]; exact HB0.out.alloc HB0.out.size _⟩
    have HCb : Aside0 (Kd.C (Kd.int .u8) Wb B n kl) := ⟨by rw [hWb]; exact Kd.C_alloc HCK.out _⟩
    have HP0 := Aside0.mk hp0
    rw [← hszb]
    clear HPR hp0 hWb hszb HREP HCK HB0
    go_loopw [19] (fun v19 wr => ∃ i : Nat, i ≤ n ∧ v19 = .int .i64 (i : Int) ∧ Aside0 (PadAt Wb kl cc i wr)) (fun v19 _ => n - (intOf v19).toNat)
    case atStart => exact ⟨0, Nat.zero_le _, rfl, HP0⟩
    case round =>
      obtain ⟨i, hi, rfl, HP⟩ := hrel
      by_cases hin : i < n
      · obtain ⟨hbw, cur, hg, hcl, hcur⟩ := HP.out
        obtain ⟨ad, rfl, hx⟩ := Kd.at_int (Kd.C_below HCb.out hbw) (i : Int) (by omega) (by omega)
        rw [Int.toNat_natCast] at hx
        have hxb := HKB.out (rd kl (i : Int)) (rd_mem (by rw [← HNL.out]; exact hin))
        obtain ⟨x, hxe⟩ : ∃ x : Nat, rd kl (i : Int) = (x : Int) := ⟨(rd kl (i : Int)).toNat, by omega⟩
        rw [hxe] at hx hxb
        have hx256 : x < 256 := by omega
        have hci : wr.cell? ⟨Wb.heap.size, i, none⟩ = some (.int .u8 (cc : Int)) := by
          rw [cell_of_row wr Wb.heap.size i _ _ _ hg]
          have := hcur i (by omega)
          rw [if_neg (by omega)] at this
          simpa using this
        have hfi := blk_frozen hg i
        have hxr := xor8 cc x hcc hx256
        have hnew : PadAt Wb kl cc (i + 1) (wr.setCell ⟨Wb.heap.size, i, none⟩ (.int .u8 ((cc ^^^ x : Nat) : Int))) := by
          refine ⟨hbw.setCell (Nat.le_refl _) _, cur.set i (.int .u8 ((cc ^^^ x : Nat) : Int)), ?_, by rw [List.length_set]; exact hcl, fun j hj => ?_⟩
          · have h1 := blk_set hg i (Value.int .u8 ((cc ^^^ x : Nat) : Int))
            simpa only [List.setIfInBounds_toArray] using h1
          · rw [List.getElem?_set]
            by_cases hij : i = j
            · subst hij
              rw [if_pos rfl, if_pos (by omega), if_pos (by omega)]
              have : kl.getD i 0 = (x : Int) := by have := hxe; simpa [rd] using this
              rw [this, Int.toNat_natCast, Nat.xor_comm]
            · rw [if_neg hij, hcur j hj]
              by_cases hji : j < i
              · rw [if_pos hji, if_pos (by omega)]
              · rw [if_neg hji, if_neg (by omega)]
        have HNEW := Aside0.mk hnew
        have kk0 : (i : Int) < (n : Int) := by omega
        have kk1 : (i : Int) < 64 := by omega
        clear hbw hg hcl hcur hxe hnew
        go_wp2
        go_roundw
        case rel => exact ⟨i + 1, by omega, by go_num, HNEW⟩
        case measure => simp [intOf]; omega
      · obtain rfl : i = n := by omega
        go_wp2
        go_ret
        obtain ⟨hbw, cur, hg, hcl, hcur⟩ := HP.out
        have hpl : PD.length = 64 := by rw [HPK.out]; simp
        have hrow := row_of_cells wr Wb.heap.size cur PD hg (by omega) (fun j hj => by
          rw [hcur j (by omega), HPK.out]
          have e : ((List.range 64).map fun i => (((kl.getD i 0).toNat ^^^ cc : Nat) : Int)).getD j 0 = (((kl.getD j 0).toNat ^^^ cc : Nat) : Int) := by
            rw [List.getD_eq_getElem?_getD, List.getElem?_map, List.getElem?_range (by omega)]; rfl
          rw [e]
          by_cases hji : j < i
          · rw [if_pos hji]
          · rw [if_neg hji]
            have : kl.getD j 0 = 0 := by rw [List.getD_eq_getElem?_getD, List.getElem?_eq_none (by rw [← HNL.out]; omega)]; rfl
            rw [this]; simp)
        rw [hpl] at hrow
        exact ⟨_, rfl, ⟨some ⟨Wb.heap.size, 0, none⟩, 64, by rw [hpl]; rfl, by rw [hpl]; exact hrow, by rw [hpl]; exact Nat.le_refl _⟩, below_step HBb.out hbw⟩
  · have h3 : (64 : Int) < (l.length : Int) := by omega
    have hke : keyL l = shaL l := if_neg h64
    rw [hke] at hpk hkb hkl
    obtain ⟨PD, hPD⟩ : ∃ P, P = padK l cc := ⟨_, rfl⟩
    rw [← hPD] at hpk ⊢
    have HPK := Aside0.mk hpk
    have HKB := Aside0.mk hkb
    have hsum := fun (X : World) (hX : Below W.heap.size W (X.alloc (.cells #[.slice A l.length c0] 22))) => sum1 X A l.length c0 l (Kd.C_below hr hX) hc hl hb (hG.below rfl hX)
    have hkl2 := shaL_len l
    obtain ⟨kl, hkle⟩ : ∃ kl, kl = shaL l := ⟨_, rfl⟩
    simp only [← hkle] at hsum
    rw [← hkle] at HPK HKB hkl2 hkl
    have HSUM := Aside0.mk hsum
    clear hr hb hG hc hl h64 hpk hkb hke hPD hkle hsum
    go_enter Tryd.func54, Tryd.ntmps54
    go_wp2_with (go_at_call 22; ((with_reducible refine (HSUM.out _ ?hN).mono ?_)))
    case hN => exact (Below.refl _ W).alloc (Nat.le_refl _) _
    rintro e W1 ⟨v1, rfl, hR1, hb1⟩
    obtain ⟨B, d, rfl, hl1, hC1⟩ := Kd.R_reads hR1
    rw [hkl2] at hC1 hl1 ⊢
    have HB0 := Aside0.mk (below_step ((Below.refl _ W).alloc (Nat.le_refl _) (.cells #[.slice A l.length c0] 22)) hb1)
    have HNL := Aside0.mk hkl2.symm
    obtain ⟨n, hn⟩ : ∃ n, n = 32 := ⟨_, rfl⟩
    rw [← hn] at HNL hC1 ⊢
    have HCK := Aside0.mk hC1
    have hkl : n ≤ 64 := by omega
    clear hR1 hb1 hl1 hC1 hn hkl2 HSUM
    have hrep := fun (X : World) => rep64 (some ⟨X.heap.size, 0, none⟩) 1 (cc : Int) (X.alloc (.cells #[.int .u8 (cc : Int)] 5)) (lit_C X [(cc : Int)] (0, 0) (by simp))
    have HREP := Aside0.mk hrep
    clear hrep
    go_wp2_with (go_at_call 64; ((with_reducible refine (HREP.out _).mono ?_); rintro e w3 ⟨rfl, hp⟩); have HPR := Aside0.mk hp; clear hp)
    obtain ⟨Wb, hWb⟩ : ∃ Wb, Wb = W1.alloc (.cells #[.int .u8 (cc : Int)] 5) := ⟨_, rfl⟩
    have hszb : Wb.heap.size = W1.heap.size + 1 := by rw [hWb, World.size_alloc]
    have hp0 : PadAt Wb kl cc 0 w3 := by
      rw [hWb]
      obtain ⟨h1, cur, h2, h3, h4⟩ := HPR.out
      exact ⟨h1, cur, h2, h3, fun j hj => by rw [if_neg (by omega)]; exact h4 j hj⟩
    have HBb : Aside0 (Below W.heap.size W Wb) := ⟨by rw [hWb]; exact HB0.out.alloc HB0.out.size _⟩
    have HCb : Aside0 (Kd.C (Kd.int .u8) Wb B n kl) := ⟨by rw [hWb]; exact Kd.C_alloc HCK.out _⟩
    have HP0 := Aside0.mk hp0
    rw [← hszb]
    clear HPR hp0 hWb hszb HREP HCK HB0
    go_loopw [19] (fun v19 wr => ∃ i : Nat, i ≤ n ∧ v19 = .int .i64 (i : Int) ∧ Aside0 (PadAt Wb kl cc i wr)) (fun v19 _ => n - (intOf v19).toNat)
    case atStart => exact ⟨0, Nat.zero_le _, rfl, HP0⟩
    case round =>
      obtain ⟨i, hi, rfl, HP⟩ := hrel
      by_cases hin : i < n
      · obtain ⟨hbw, cur, hg, hcl, hcur⟩ := HP.out
        obtain ⟨ad, rfl, hx⟩ := Kd.at_int (Kd.C_below HCb.out hbw) (i : Int) (by omega) (by omega)
        rw [Int.toNat_natCast] at hx
        have hxb := HKB.out (rd kl (i : Int)) (rd_mem (by rw [← HNL.out]; exact hin))
        obtain ⟨x, hxe⟩ : ∃ x : Nat, rd kl (i : Int) = (x : Int) := ⟨(rd kl (i : Int)).toNat, by omega⟩
        rw [hxe] at hx hxb
        have hx256 : x < 256 := by omega
        have hci : wr.cell? ⟨Wb.heap.size, i, none⟩ = some (.int .u8 (cc : Int)) := by
          rw [cell_of_row wr Wb.heap.size i _ _ _ hg]
          have := hcur i (by omega)
          rw [if_neg (by omega)] at this
          simpa using this
        have hfi := blk_frozen hg i
        have hxr := xor8 cc x hcc hx256
        have hnew : PadAt Wb kl cc (i + 1) (wr.setCell ⟨Wb.heap.size, i, none⟩ (.int .u8 ((cc ^^^ x : Nat) : Int))) := by
          refine ⟨hbw.setCell (Nat.le_refl _) _, cur.set i (.int .u8 ((cc ^^^ x : Nat) : Int)), ?_, by rw [List.length_set]; exact hcl, fun j hj => ?_⟩
          · have h1 := blk_set hg i (Value.int .u8 ((cc ^^^ x : Nat) : Int))
            simpa only [List.setIfInBounds_toArray] using h1
          · rw [List.getElem?_set]
            by_cases hij : i = j
            · subst hij
              rw [if_pos rfl, if_pos (by omega), if_pos (by omega)]
              have : kl.getD i 0 = (x : Int) := by have := hxe; simpa [rd] using this
              rw [this, Int.toNat_natCast, Nat.xor_comm]
            · rw [if_neg hij, hcur j hj]
              by_cases hji : j < i
              · rw [if_pos hji, if_pos (by omega)]
              · rw [if_neg hji, if_neg (by omega)]
        have HNEW := Aside0.mk hnew
        have kk0 : (i : Int) < (n : Int) := by omega
        have kk1 : (i : Int) < 64 := by omega
        clear hbw hg hcl hcur hxe hnew
        go_wp2
        go_roundw
        case rel => exact ⟨i + 1, by omega, by go_num, HNEW⟩
        case measure => simp [intOf]; omega
      · obtain rfl : i = n := by omega
        go_wp2
        go_ret
        obtain ⟨hbw, cur, hg, hcl, hcur⟩ := HP.out
        have hpl : PD.length = 64 := by rw [HPK.out]; simp
        have hrow := row_of_cells wr Wb.heap.size cur PD hg (by omega) (fun j hj => by
          rw [hcur j (by omega), HPK.out]
          have e : ((List.range 64).map fun i => (((kl.getD i 0).toNat ^^^ cc : Nat) : Int)).getD j 0 = (((kl.getD j 0).toNat ^^^ cc : Nat) : Int) := by
            rw [List.getD_eq_getElem?_getD, List.getElem?_map, List.getElem?_range (by omega)]; rfl
          rw [e]
          by_cases hji : j < i
          · rw [if_pos hji]
          · rw [if_neg hji]
            have : kl.getD j 0 = 0 := by rw [List.getD_eq_getElem?_getD, List.getElem?_eq_none (by rw [← HNL.out]; omega)]; rfl
            rw [this]; simp)
        rw [hpl] at hrow
        exact ⟨_, rfl, ⟨some ⟨Wb.heap.size, 0, none⟩, 64, by rw [hpl]; rfl, by rw [hpl]; exact hrow, by rw [hpl]; exact Nat.le_refl _⟩, below_step HBb.out hbw⟩
end Go.Proofs.YtfmdpkilgnccfaaDoor.E
