/- The document's ideal maker: a record of what it made. Prove. -/
import Derived.Test.YtlddionmkblioaaDoorMacI
import Derived.Test.YtlddionmkblioaaDoorRefC
import Derived.Deep.QuietTactic
import Derived.BigQuiet
namespace Go.Proofs.YtlddionmkblioaaDoor.Pure
open Go.RowKit Go.Proofs.YtlddionmkblioaaDoorW.PrintWords Go.Proofs.YtlddionmkblioaaDoorW.PrintLast Go.Proofs.YtlddionmkblioaaDoorW.PrintMore Go.Proofs.YtlddionmkblioaaDoor.Pr Go.Proofs.YtlddionmkblioaaDoor.E
set_option linter.unusedVariables false
set_option linter.unusedSimpArgs false
attribute [local go_sem] opVal opUpon
/-- What was made, as texts. -/
def strs (made : List (List Int)) : List ByteArray := made.map strOfNums
theorem strs_len (made : List (List Int)) : (strs made).length = made.length := by simp [strs]
theorem at_SS {w : World} {A : Option Addr} {n : Nat} {made : List (List Int)} (h : Kd.C Kd.string w A n (strs made)) (i : Nat) (h1 : i < n) : ∃ ad, A = some ad ∧ w.cell? (ad.add i) = some (.string (strOfNums (rdR made i))) := by
  obtain ⟨ad, c, e, _, hK, hc0⟩ := Kd.C_get h (strOfNums []) (i : Int) (by omega) (by omega)
  have hc : ∀ j u, c[j]? = some u → w.cell? (ad.add ((i : Int).toNat * 1 + j)) = some u := hc0
  have hK' : c = [Value.string ((strs made).getD (i : Int).toNat (strOfNums []))] := hK
  refine ⟨ad, e, ?_⟩
  have hq := hc 0 _ (by rw [hK']; rfl)
  rw [Nat.mul_one, Nat.add_zero, Int.toNat_natCast] at hq
  rw [hq]
  congr 2
  simp only [strs, rdR, Int.toNat_natCast, List.getD_eq_getElem?_getD, List.getElem?_map]
  cases made[i]? <;> rfl
/-- The record: what was made, in order; the codes, as many. -/
def recV (A2 A3 : Option Addr) (n c2 c3 : Nat) : Value := .agg #[.slice none 0 0, .bool true, .slice A2 n c2, .slice A3 n c3]
/-- A text with just that code stands at or behind i. -/
def pairFrom (made codes : List (List Int)) (x y : List Int) : Nat → Nat → Bool
  | _, 0 => false
  | i, k + 1 => (decide (rdR made i = x) && decide (rdR codes i = y)) || pairFrom made codes x y (i + 1) k
set_option maxHeartbeats 8000000 in
set_option maxRecDepth 100000 in
theorem rprove_any (made codes : List (List Int)) (A2 A3 : Option Addr) (n c2 c3 : Nat) (W : World) (hS : Kd.C Kd.string W A2 n (strs made)) (hC : Kd.C (Kd.slice 5 (Kd.int .u8)) W A3 n codes)
    (hn2 : n ≤ c2) (hn3 : n ≤ c3) (hM : ByteRows made) (hK : ByteRows codes) (hml : made.length = n) (hcl : codes.length = n)
    (A0 : Option Addr) (c0 : Nat) (l0 : List Int) (hr0 : Kd.C (Kd.int .u8) W A0 l0.length l0) (hc0 : l0.length ≤ c0) (hb0 : ∀ x ∈ l0, 0 ≤ x ∧ x ≤ 255)
    (A1 : Option Addr) (c1 : Nat) (l1 : List Int) (hr1 : Kd.C (Kd.int .u8) W A1 l1.length l1) (hc1 : l1.length ≤ c1) (hb1 : ∀ x ∈ l1, 0 ≤ x ∧ x ≤ 255) :
    Calls Tryd.prog 8 #[recV A2 A3 n c2 c3, .slice A0 l0.length c0, .slice A1 l1.length c1] W fun e w' => e = .returned (.bool (pairFrom made codes l0 l1 0 n)) ∧ Below W.heap.size W w' := by
  have hmx := Kd.C_max hC
  have HS := Aside0.mk hS
  have HC := Aside0.mk hC
  have HR0 := Aside0.mk hr0
  have HR1 := Aside0.mk hr1
  have HB0 := Aside0.mk hb0
  have HB1 := Aside0.mk hb1
  have HM := Aside0.mk (And.intro hM hK)
  have HML := Aside0.mk (And.intro hml hcl)
  clear hS hC hr0 hr1 hb0 hb1 hM hK hml hcl
  unfold recV
  go_enter Tryd.func8, Tryd.ntmps8
  go_wp2
  have HA : Aside0 (Below W.heap.size W (W.alloc (.cells #[.slice none 0 0, .bool true, .slice A2 n c2, .slice A3 n c3] 32))) := ⟨(Below.refl _ _).alloc (Nat.le_refl _) _⟩
  have HN : Aside0 ((W.alloc (.cells #[.slice none 0 0, .bool true, .slice A2 n c2, .slice A3 n c3] 32)).heap[W.heap.size]? = some (.cells #[.slice none 0 0, .bool true, .slice A2 n c2, .slice A3 n c3] 32 (0, 0))) := ⟨heap_alloc_new W _⟩
  go_loopw [7] (fun v7 wr => ∃ (k : Nat), k ≤ n ∧ v7 = .int .i64 (k : Int) ∧ Aside0 (pairFrom made codes l0 l1 0 n = pairFrom made codes l0 l1 k (n - k)) ∧ Aside0 (Below W.heap.size W wr) ∧ Aside0 (wr.heap[W.heap.size]? = some (.cells #[.slice none 0 0, .bool true, .slice A2 n c2, .slice A3 n c3] 32 (0, 0)))) (fun v7 _ => n - (intOf v7).toNat)
  case atStart => exact ⟨0, Nat.zero_le _, rfl, ⟨rfl⟩, HA, HN⟩
  case round =>
    obtain ⟨k, hk, rfl, HP, HB, HO⟩ := hrel
    have t1 : wr.cell? ⟨W.heap.size, 1, none⟩ = some (.bool true) := blk_cell HO.out 1
    have t2 : wr.cell? ⟨W.heap.size, 2, none⟩ = some (.slice A2 n c2) := blk_cell HO.out 2
    have t3 : wr.cell? ⟨W.heap.size, 3, none⟩ = some (.slice A3 n c3) := blk_cell HO.out 3
    by_cases hlt : k < n
    · have hz : (k : Int) < (n : Int) := by omega
      have hz2 : decide ((k : Int) < (n : Int)) = true := decide_eq_true hz
      obtain ⟨ad2, rfl, hx⟩ := at_SS (Kd.C_below HS.out HB.out) k hlt
      obtain ⟨ad3, A4, c4, rfl, hy, hc4, hr4⟩ := at_LL (Kd.C_below HC.out HB.out) (k : Int) (by omega) (by omega)
      have hy' : wr.cell? (ad3.add k) = some (.slice A4 (rdR codes k).length c4) := by simpa using hy
      have hr4' : Kd.C (Kd.int .u8) wr A4 (rdR codes k).length (rdR codes k) := by simpa using hr4
      have hs0 := fun m => Kd.C_string (P := Tryd.prog) (c := c0) Tryd.underlying24 Tryd.underlying5 Tryd.underlying9 (Kd.C_below HR0.out (pw_below_drewN HB.out m))
      have hs1 := fun m => Kd.C_string (P := Tryd.prog) (c := c1) Tryd.underlying24 Tryd.underlying5 Tryd.underlying9 (Kd.C_below HR1.out (pw_below_drewN HB.out m))
      have hs4 := fun m => Kd.C_string (P := Tryd.prog) (c := c4) Tryd.underlying24 Tryd.underlying5 Tryd.underlying9 (Kd.C_below hr4' (pw_below_drewN (Below.refl _ _) m))
      have hm1 : ∀ y ∈ rdR made k, 0 ≤ y ∧ y ≤ 255 := (HM.out.1 _ (rdR_mem (by rw [HML.out.1]; exact hlt))).1
      have hm2 : ∀ y ∈ rdR codes k, 0 ≤ y ∧ y ≤ 255 := (HM.out.2 _ (rdR_mem (by rw [HML.out.2]; exact hlt))).1
      have hnk : n - k = (n - (k + 1)) + 1 := by omega
      have HK : Aside0 (pairFrom made codes l0 l1 k (n - k) = ((decide (rdR made k = l0) && decide (rdR codes k = l1)) || pairFrom made codes l0 l1 (k + 1) (n - (k + 1)))) := ⟨by rw [hnk]; rfl⟩
      obtain ⟨M, hMk⟩ : ∃ M, M = rdR made k := ⟨_, rfl⟩
      obtain ⟨C, hCk⟩ : ∃ C, C = rdR codes k := ⟨_, rfl⟩
      rw [← hMk] at hx hm1
      rw [← hMk, ← hCk] at HK
      rw [← hCk] at hy' hr4' hm2 hs4 hc4
      have HH := Aside0.mk (And.intro hm1 hm2)
      clear hy hr4 hr4' hm1 hm2 hMk hCk hnk
      by_cases hd : M = l0
      · subst hd
        have e1 : ((strOfNums M).toList == (strOfNums M).toList) = true := beq_self_eq_true _
        by_cases hc : C = l1
        · subst hc
          have e2 : ((strOfNums C).toList == (strOfNums C).toList) = true := beq_self_eq_true _
          go_wp2
          go_quiet (fail)
          go_wp2
          go_ret
          exact ⟨by rw [HP.out, HK.out]; simp, pw_below_drewN HB.out _⟩
        have hc2 := strOfNums_ne HH.out.2 HB1.out hc
        go_wp2
        go_quiet (fail)
        go_wp2
        go_roundw
        case rel => exact ⟨k + 1, by omega, by go_num, ⟨by rw [HP.out, HK.out]; simp [hc]⟩, ⟨pw_below_drewN HB.out _⟩, HO⟩
        case measure => simp [intOf]; omega
      · have hd2 := strOfNums_ne HH.out.1 HB0.out hd
        go_wp2
        go_quiet (fail)
        go_wp2
        go_roundw
        case rel => exact ⟨k + 1, by omega, by go_num, ⟨by rw [HP.out, HK.out]; simp [hd]⟩, ⟨pw_below_drewN HB.out _⟩, HO⟩
        case measure => simp [intOf]; omega
    · have hz : ¬ (k : Int) < (n : Int) := by omega
      have hz2 : decide ((k : Int) < (n : Int)) = false := decide_eq_false hz
      obtain rfl : k = n := by omega
      clear hlt
      go_wp2
      go_ret
      exact ⟨by rw [HP.out, Nat.sub_self]; rfl, HB.out⟩
end Go.Proofs.YtlddionmkblioaaDoor.Pure

