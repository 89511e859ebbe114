/- The sum of a frame, in plain numbers; the closure in crc.sum, and crc.sum itself. -/
import Derived.Test.YtmepclalglmleaaF
namespace Go.Proofs.Ytmepclalglmleaa.E
open Go.RowKit Go.Proofs.YtmepclalglmleaaW.PrintWords Go.Proofs.YtmepclalglmleaaW.PrintLast Go.Proofs.YtmepclalglmleaaW.PrintMore Go.Proofs.Ytmepclalglmleaa.Pr
set_option linter.unusedVariables false
set_option linter.unusedSimpArgs false
/-- One bit further. -/
def st (n : Nat) : Nat := (n / 2) ^^^ (3988292384 * (n % 2))
/-- n bits further. -/
def sts : Nat → Nat → Nat
  | 0, n => n
  | k + 1, n => sts k (st n)
def crun (n : Nat) (l : List Int) : Nat := l.foldl (fun n c => sts 8 (n ^^^ c.toNat)) n
def crcN (l : List Int) : Nat := crun 4294967295 l ^^^ 4294967295
theorem lt32 {a b : Nat} (ha : a < 4294967296) (hb : b < 4294967296) : a ^^^ b < 4294967296 := Nat.xor_lt_two_pow (n := 32) ha hb
theorem st_lt {n : Nat} (h : n < 4294967296) : st n < 4294967296 := lt32 (by omega) (by have := Nat.mod_two_eq_zero_or_one n; rcases this with h | h <;> rw [h] <;> omega)
theorem sts_lt : ∀ (k : Nat) {n : Nat}, n < 4294967296 → sts k n < 4294967296
  | 0, _, h => h
  | k + 1, _, h => sts_lt k (st_lt h)
theorem sts_succ : ∀ (k n : Nat), sts (k + 1) n = st (sts k n)
  | 0, _ => rfl
  | k + 1, n => sts_succ k (st n)
theorem wraps_u32 (n : Int) (h₀ : 0 ≤ n) (h₁ : n < 2 ^ 32) : IntKind.u32.wrap n = n := by rw [IntKind.wrap_u32]; omega
theorem xor32 (a b : Nat) (ha : a < 4294967296) (hb : b < 4294967296) : bits .xor .u32 (a : Int) (b : Int) = ((a ^^^ b : Nat) : Int) := by
  have hb' : (2 : Nat) ^ IntKind.u32.bits = 4294967296 := rfl
  simp only [bits, BitVec.ofInt_natCast, BitVec.toNat_xor, BitVec.toNat_ofNat, hb', Nat.mod_eq_of_lt ha, Nat.mod_eq_of_lt hb]
  exact wraps_u32 _ (Int.natCast_nonneg _) (by have := lt32 ha hb; omega)
theorem and1 (a : Nat) (ha : a < 4294967296) : bits .and .u32 (a : Int) 1 = ((a % 2 : Nat) : Int) := by
  have := (bits_nat .u32 32 (by decide) wraps_u32 a 1 ha (by decide)).1
  rw [Nat.and_one_is_mod] at this
  exact this
theorem st_int (a : Nat) (ha : a < 4294967296) : bits .xor .u32 ((a : Int) / 2) (3988292384 * bits .and .u32 (a : Int) 1 % 4294967296) = ((st a : Nat) : Int) := by
  rw [and1 a ha]
  have e1 : (a : Int) / 2 = ((a / 2 : Nat) : Int) := by omega
  have e2 : (3988292384 * ((a % 2 : Nat) : Int) % 4294967296) = ((3988292384 * (a % 2) : Nat) : Int) := by
    rcases Nat.mod_two_eq_zero_or_one a with h | h <;> rw [h] <;> decide
  rw [e1, e2]
  exact xor32 _ _ (by omega) (by rcases Nat.mod_two_eq_zero_or_one a with h | h <;> rw [h] <;> decide)
set_option maxHeartbeats 2000000 in
set_option maxRecDepth 100000 in
theorem add51 (b n : Nat) (c : Int) (w : World) (hb : w.heap[b]? = some (.cells #[.int .u32 (n : Int)] 43 (0, 0))) (hn : n < 4294967296) (hc : 0 ≤ c ∧ c ≤ 255) :
    Calls Try.prog 51 #[.int .u8 c, .pointer (some ⟨b, 0, none⟩)] w fun e w' => e = .returned (.tuple #[]) ∧ w'.heap[b]? = some (.cells #[.int .u32 ((sts 8 (n ^^^ c.toNat) : Nat) : Int)] 43 (0, 0)) ∧ Below b w w' := by
  have c0 : w.cell? ⟨b, 0, none⟩ = some (.int .u32 (n : Int)) := blk_cell hb 0
  have f0 : w.frozen? ⟨b, 0, none⟩ = false := blk_frozen hb 0
  have hx : bits .xor .u32 (n : Int) c = ((n ^^^ c.toNat : Nat) : Int) := by
    have := xor32 n c.toNat hn (by omega)
    rwa [Int.toNat_of_nonneg hc.1] at this
  obtain ⟨N, hN⟩ : ∃ N, N = n ^^^ c.toNat := ⟨_, rfl⟩
  have hNl : N < 4294967296 := by rw [hN]; exact lt32 hn (by omega)
  rw [← hN] at hx ⊢
  have HN := Aside0.mk hN
  have HL := Aside0.mk hNl
  have HB := Aside0.mk hb
  clear hN hNl hb
  have s0 : (w.setCell ⟨b, 0, none⟩ (.int .u32 (N : Int))).heap[b]? = some (.cells #[.int .u32 (N : Int)] 43 (0, 0)) := by simpa using blk_set HB.out 0 (.int .u32 (N : Int))
  have S0 := Aside0.mk s0
  clear s0
  go_enter Try.func51, Try.ntmps51
  go_wp2
  clear hx c0 f0
  go_loopw [7] (fun v7 wr => ∃ (k : Nat), k ≤ 8 ∧ v7 = .int .i64 k ∧ Aside0 (wr.heap[b]? = some (.cells #[.int .u32 ((sts k N : Nat) : Int)] 43 (0, 0))) ∧ Below b w wr) (fun v7 _ => 8 - (intOf v7).toNat)
  case atStart => exact ⟨0, by omega, rfl, S0, (Below.refl b w).setCell (p := ⟨b, 0, none⟩) (Nat.le_refl _) _⟩
  case round =>
    obtain ⟨k, hk, rfl, hbr, hbw⟩ := hrel
    have hml := sts_lt k HL.out
    obtain ⟨m, hm⟩ : ∃ m, m = sts k N := ⟨_, rfl⟩
    rw [← hm] at hml hbr
    have c1 : wr.cell? ⟨b, 0, none⟩ = some (.int .u32 (m : Int)) := blk_cell hbr.out 0
    have f1 : wr.frozen? ⟨b, 0, none⟩ = false := blk_frozen hbr.out 0
    have HM := Aside0.mk hm
    have HML := Aside0.mk hml
    clear hm
    by_cases hp : k < 8
    · go_wp2
      go_roundw
      case rel =>
        rw [st_int m HML.out, HM.out, ← sts_succ]
        refine ⟨k + 1, by omega, by go_num, ⟨?_⟩, hbw.setCell (p := ⟨b, 0, none⟩) (Nat.le_refl _) _⟩
        simpa using blk_set hbr.out 0 (.int .u32 ((sts (k + 1) N : Nat) : Int))
      case measure => simp [intOf]; omega
    · obtain rfl : k = 8 := by omega
      rw [HM.out] at hbr
      go_wp2
      go_end0
      exact ⟨rfl, hbr.out, hbw⟩
def rdR (xs : List (List Int)) (i : Int) : List Int := xs.getD i.toNat ([] : List Int)
theorem at_LL {w : World} {A : Option Addr} {n : Nat} {xs : List (List Int)} (h : Kd.C (Kd.slice 5 (Kd.int .u8)) w A n xs) (i : Int) (h0 : 0 ≤ i) (h1 : i < n) : ∃ ad A0 c0, A = some ad ∧ w.cell? (ad.add i.toNat) = some (.slice A0 (rdR xs i).length c0) ∧ (rdR xs i).length ≤ c0 ∧ (Kd.int .u8).C w A0 (rdR xs i).length (rdR xs i) := by
  obtain ⟨ad, c, e, _, hK, hc0⟩ := Kd.C_get h ([] : List Int) i h0 h1
  have hc : ∀ j u, c[j]? = some u → w.cell? (ad.add (i.toNat * 1 + j)) = some u := hc0
  obtain ⟨A0, c0, rfl, l0, g0⟩ := hK
  exact ⟨ad, A0, c0, e, by have hq := hc 0 _ rfl; rwa [Nat.mul_one, Nat.add_zero] at hq, l0, g0⟩
theorem crun_append (n : Nat) (a b : List Int) : crun n (a ++ b) = crun (crun n a) b := by simp [crun, List.foldl_append]
theorem crun_lt {n : Nat} (hn : n < 4294967296) {l : List Int} (h : ∀ x ∈ l, 0 ≤ x ∧ x ≤ 255) : crun n l < 4294967296 := by
  induction l generalizing n with
  | nil => exact hn
  | cons a l ih =>
    refine ih (n := sts 8 (n ^^^ a.toNat)) ?_ (fun x hx => h x (List.mem_cons_of_mem _ hx))
    have := h a (List.mem_cons_self ..)
    exact sts_lt 8 (lt32 hn (by omega))
theorem take_rd {l : List Int} {k : Nat} (h : k < l.length) : l.take (k + 1) = l.take k ++ [rd l k] := by
  rw [List.take_succ_eq_append_getElem h]; simp [rd, List.getD_eq_getElem?_getD, h]
theorem take_rdR {l : List (List Int)} {k : Nat} (h : k < l.length) : l.take (k + 1) = l.take k ++ [rdR l k] := by
  rw [List.take_succ_eq_append_getElem h]; simp [rdR, List.getD_eq_getElem?_getD, h]
theorem rd_mem {l : List Int} {k : Nat} (h : k < l.length) : rd l k ∈ l := by simp [rd, List.getD_eq_getElem?_getD, h]
theorem rdR_mem {l : List (List Int)} {k : Nat} (h : k < l.length) : rdR l k ∈ l := by simp [rdR, List.getD_eq_getElem?_getD, h]
def crc_sum.f (l0 : List (List Int)) : Option Int := if ∀ r ∈ l0, ∀ x ∈ r, 0 ≤ x ∧ x ≤ 255 then some (crcN l0.flatten : Int) else none
set_option maxHeartbeats 4000000 in
set_option maxRecDepth 100000 in
theorem crc_sum.calls (A0 : Option Addr) (c0 : Nat) (l0 : List (List Int)) (r : Int) (w : World) (hr0 : Kd.C (Kd.slice 5 (Kd.int .u8)) w A0 l0.length l0) (hc0 : l0.length ≤ c0) (h : crc_sum.f l0 = some r) :
    Calls Try.prog 41 #[.slice A0 l0.length c0] w fun e w' => e = .returned (.int .u32 r) ∧ Below w.heap.size w w' := by
  unfold crc_sum.f at h
  split at h
  · rename_i hall
    injection h with h
    have HALL := Aside0.mk hall
    have HR := Aside0.mk h
    have HR0 := Aside0.mk hr0
    have hmx := Kd.C_max hr0
    clear hall h hr0
    go_enter Try.func41, Try.ntmps41
    go_wp2
    go_loopw [12] (fun v12 wr => ∃ (k : Nat), k ≤ l0.length ∧ v12 = .int .i64 k ∧ Aside0 (wr.heap[w.heap.size]? = some (.cells #[.int .u32 ((crun 4294967295 (l0.take k).flatten : Nat) : Int)] 43 (0, 0))) ∧ Below w.heap.size w wr) (fun v12 _ => l0.length - (intOf v12).toNat)
    case atStart =>
      refine ⟨0, Nat.zero_le _, rfl, ⟨?_⟩, ?_⟩
      · simpa [crun] using heap_alloc_new w (.cells #[.int .u32 4294967295] 43)
      · exact (Below.refl _ w).alloc (Nat.le_refl _) _
    case round =>
      obtain ⟨k, hk, rfl, hcell, hbw⟩ := hrel
      by_cases hp : k < l0.length
      · obtain ⟨ad, A1, c1, rfl, hx, hc1, hr1⟩ := at_LL HR0.out (k : Int) (by omega) (by omega)
        have hx' : wr.cell? (ad.add k) = some (.slice A1 (rdR l0 k).length c1) := pw_cell_below hbw (by simpa using hx)
        have hm1 := Kd.C_max hr1
        have HR1 := Aside0.mk hr1
        have hmem := HALL.out _ (rdR_mem hp)
        have hpre := take_rdR hp
        obtain ⟨R, hR⟩ : ∃ R, R = rdR l0 k := ⟨_, rfl⟩
        rw [← hR] at hx' HR1 hm1 hc1 hmem hpre
        have HM := Aside0.mk hmem
        have HP := Aside0.mk hpre
        clear hx hr1 hmem hpre hR
        obtain ⟨wo, rfl⟩ : ∃ wo : World, wo = wr := ⟨_, rfl⟩
        go_wp2
        go_loopw [18] (fun v18 wr => ∃ (j : Nat), j ≤ R.length ∧ v18 = .int .i64 j ∧ Aside0 (wr.heap[w.heap.size]? = some (.cells #[.int .u32 ((crun 4294967295 ((l0.take k).flatten ++ R.take j) : Nat) : Int)] 43 (0, 0))) ∧ Below w.heap.size w wr) (fun v18 _ => R.length - (intOf v18).toNat)
        case atStart =>
          refine ⟨0, Nat.zero_le _, rfl, ⟨?_⟩, hbw⟩
          rw [List.take_zero, List.append_nil]; exact hcell.out
        case round =>
          obtain ⟨j, hj, rfl, hcell2, hbw2⟩ := hrel
          by_cases hq : j < R.length
          · obtain ⟨ad2, rfl, hy⟩ := Kd.at_int (Kd.C_below HR1.out hbw2) (j : Int) (by omega) (by omega)
            have hy' : wr.cell? (ad2.add j) = some (.int .u8 (rd R j)) := by simpa using hy
            have hxr := HM.out _ (rd_mem hq)
            have hlt : crun 4294967295 ((l0.take k).flatten ++ R.take j) < 4294967296 := by
              refine crun_lt (by decide) ?_
              intro x hx
              rcases List.mem_append.1 hx with hx | hx
              · obtain ⟨q, hq1, hq2⟩ := List.mem_flatten.1 hx
                exact HALL.out q (List.mem_of_mem_take hq1) x hq2
              · exact HM.out x (List.mem_of_mem_take hx)
            have hnext : crun 4294967295 ((l0.take k).flatten ++ R.take (j + 1)) = sts 8 (crun 4294967295 ((l0.take k).flatten ++ R.take j) ^^^ (rd R j).toNat) := by
              rw [take_rd hq, ← List.append_assoc, crun_append]; rfl
            have HN := Aside0.mk hnext
            have HL := Aside0.mk hlt
            have HX := Aside0.mk hxr
            clear hy hnext hlt hxr
            obtain ⟨x, ex⟩ : ∃ x, x = rd R j := ⟨_, rfl⟩
            rw [← ex] at hy' HN HX
            clear ex
            go_wp2_with (go_at_call 51; refine (add51 w.heap.size _ x _ hcell2.out HL.out HX.out).mono ?_; rintro e W1 ⟨rfl, h1, b1⟩)
            have H1 := Aside0.mk h1
            clear h1
            go_roundw
            case rel => exact ⟨j + 1, by omega, by go_num, by rw [HN.out]; exact H1, hbw2.trans b1⟩
            case measure => simp [intOf]; omega
          · obtain rfl : j = R.length := by omega
            rw [List.take_length] at hcell2
            go_wp2
            go_roundw
            case rel => exact ⟨k + 1, by omega, by go_num, by rw [HP.out, List.flatten_append]; simpa using hcell2, hbw2⟩
            case measure => simp [intOf]; omega
      · obtain rfl : k = l0.length := by omega
        rw [List.take_length] at hcell
        have hc := blk_cell hcell.out 0
        go_wp2
        go_ret
        refine ⟨?_, hbw⟩
        rw [← HR.out]
        have hlt : crun 4294967295 l0.flatten < 4294967296 := by
          refine crun_lt (by decide) ?_
          intro x hx
          obtain ⟨q, hq1, hq2⟩ := List.mem_flatten.1 hx
          exact HALL.out q hq1 x hq2
        have := xor32 4294967295 _ (by decide) hlt
        rw [Nat.xor_comm] at this
        have e : (IntKind.u32.max : Int) = ((4294967295 : Nat) : Int) := rfl
        rw [e, this]; rfl
  · cases h
end Go.Proofs.Ytmepclalglmleaa.E
