/- bytes.Repeat, mac.pad, mac.Code. A merge. -/
import Derived.Test.YtlddionmkblioaaDoorShaM
/- bytes.Repeat of one byte, sixty-four times. -/
namespace Go.Proofs.YtlddionmkblioaaDoor.E
open Go.RowKit Go.Proofs.YtlddionmkblioaaDoorW.PrintWords Go.Proofs.YtlddionmkblioaaDoorW.PrintLast Go.Proofs.YtlddionmkblioaaDoorW.PrintMore Go.Proofs.YtlddionmkblioaaDoor.Pr
set_option linter.unusedVariables false
set_option linter.unusedSimpArgs false
attribute [local go_sem] opVal opUpon
set_option maxHeartbeats 4000000 in
theorem mul64_any (w : World) : Calls Tryd.prog 37 #[.int .u64 1, .int .u64 64] w fun e w' => e = .returned (.tuple #[.int .u64 0, .int .u64 64]) ∧ w = w' := by
  have b1 : bits .and .u64 1 4294967295 = 1 := by decide
  have b2 : bits .and .u64 64 4294967295 = 64 := by decide
  have b3 : bits .and .u64 0 4294967295 = 0 := by decide
  go_enter Tryd.func37, Tryd.ntmps37
  go_wp2
  go_ret2
  exact ⟨rfl, rfl⟩
theorem mul_any (w : World) : Calls Tryd.prog 31 #[.int .u64 1, .int .u64 64] w fun e w' => e = .returned (.tuple #[.int .u64 0, .int .u64 64]) ∧ w = w' := by
  go_enter Tryd.func31, Tryd.ntmps31
  go_wp2_with (go_at_call 37; (refine (mul64_any _).mono ?_; rintro e w' ⟨rfl, rfl⟩))
  go_ret2
  exact ⟨rfl, rfl⟩
/-- The buffer, its first k bytes laid. -/
def Pre (w : World) (x : Int) (k : Nat) (X : World) : Prop := Below w.heap.size w X ∧ ∃ cur : List Value, X.heap[w.heap.size]? = some (.cells cur.toArray 5 (0, 0)) ∧ 64 ≤ cur.length ∧ ∀ j, j < k → cur[j]? = some (.int .u8 x)
theorem Pre.drew {w : World} {x : Int} {k : Nat} {X : World} (h : Pre w x k X) : Pre w x k X.drew := ⟨h.1.drew, h.2⟩
/-- copy(b[k:], s), s being d bytes x. -/
theorem copy_pre (w : World) (x : Int) (k d : Nat) (X : World) (h : Pre w x k X) (hkd : k + d ≤ 64) (a : Addr) (sLen sCap dCap : Nat) (ty : TypeId) (hd : d = Nat.min sLen (64 - k)) (hsrc : ∀ j, j < d → X.cell? (a.add j) = some (.int .u8 x)) :
    ∃ Y, (Builtin.copy_ #[24, 24] ty #[.slice (some ⟨w.heap.size, k, none⟩) (64 - k) dCap, .slice (some a) sLen sCap]).run Tryd.prog X = .ok (.int .i64 (d : Int)) Y ∧ Pre w x (k + d) Y ∧ ∀ j, Pre w x j X → Pre w x j Y := by
  obtain ⟨hb, cur, hg, hl, hc⟩ := h
  have hrun := run_copy_row (P := Tryd.prog) X 24 24 ty 5 w.heap.size k (64 - k) dCap a sLen sCap cur.toArray 5 (List.replicate d (Value.int .u8 x)) Tryd.underlying24 (by kernel_rfl) hg (by rw [List.length_replicate]; exact hd)
    (fun j v hj => by
      have hlt : j < d := by have := (List.getElem?_eq_some_iff.1 hj).1; simpa using this
      rw [List.getElem?_replicate, if_pos hlt] at hj
      cases hj
      exact hsrc j hlt) (by simp; omega) (fun v hv => by rw [List.eq_of_mem_replicate hv]; rfl)
  rw [List.length_replicate] at hrun
  have hset : ∀ (i : Nat) (j : Nat), (∀ q, q < j → cur[q]? = some (Value.int .u8 x)) → i < j ∨ i < k + d → (cur.take k ++ List.replicate d (Value.int .u8 x) ++ cur.drop (k + d))[i]? = some (.int .u8 x) := by
    intro i j hj hi
    have hlk : (cur.take k).length = k := by rw [List.length_take]; omega
    by_cases h1 : i < k
    · rw [List.append_assoc, List.getElem?_append_left (by omega), List.getElem?_take, if_pos h1]; exact hc i h1
    · by_cases h2 : i < k + d
      · rw [List.append_assoc, List.getElem?_append_right (by omega), hlk, List.getElem?_append_left (by rw [List.length_replicate]; omega), List.getElem?_replicate, if_pos (by omega)]
      · rw [List.getElem?_append_right (by rw [List.length_append, hlk, List.length_replicate]; omega), List.length_append, hlk, List.length_replicate, List.getElem?_drop, show k + d + (i - (k + d)) = i by omega]
        exact hj i (by omega)
  have hlen : (cur.take k ++ List.replicate d (Value.int .u8 x) ++ cur.drop (k + d)).length = cur.length := by
    simp only [List.length_append, List.length_take, List.length_replicate, List.length_drop]; omega
  refine ⟨_, hrun, ⟨below_setRow hb (Nat.le_refl _) _, _, setRow_heap X w.heap.size _ _ _ _ hg, by rw [hlen]; exact hl, fun j hj => hset j 0 (fun q hq => absurd hq (by omega)) (.inr hj)⟩, ?_⟩
  rintro j ⟨hb2, cur2, hg2, hl2, hc2⟩
  rw [hg] at hg2
  have e : cur = cur2 := by
    injection hg2 with h1
    injection h1 with h1
    exact List.toArray_inj h1
  subst e
  exact ⟨below_setRow hb2 (Nat.le_refl _) _, _, setRow_heap X w.heap.size _ _ _ _ hg, by rw [hlen]; exact hl, fun i hi => hset i j hc2 (.inl hi)⟩
set_option maxRecDepth 100000 in
set_option maxHeartbeats 8000000 in
theorem rep64 (A : Option Addr) (c0 : Nat) (x : Int) (w : World) (hC : Kd.C (Kd.int .u8) w A 1 [x]) : Calls Tryd.prog 23 #[.slice A 1 c0, .int .i64 64] w fun e w' => e = .returned (.slice (some ⟨w.heap.size, 0, none⟩) 64 64) ∧ Pre w x 64 w' := by
  obtain ⟨cs, hrunM, hle, _⟩ := Lib.run_makeNoZero (P := Tryd.prog) w #[3] 24 5 Tryd.underlying24 64 (by decide)
  have hcall : (callFunc 32 #[.int .i64 64]).run Tryd.prog w = .ok (.value (.slice (some ⟨w.heap.size, 0, none⟩) 64 cs.size)) ((w.alloc (.cells cs 5)).drewN 2) := by
    rw [run_callFunc_extern Tryd.func32 (by kernel_rfl) (by kernel_rfl) (by kernel_rfl) (e := Extern.BytealgMakeNoZero.makeNoZero #[3] #[24]) (by kernel_rfl)]
    have h64 : ((64 : Nat) : Int) = 64 := rfl
    rw [h64] at hrunM
    rw [hrunM]
    rfl
  obtain ⟨ad, rfl, hx⟩ := Kd.at_int hC 0 (by decide) (by decide)
  have hx0 : w.cell? ad = some (.int .u8 x) := by have := hx; rwa [show (0 : Int).toNat = 0 from rfl, Addr.add_zero'] at this
  have hp0 : Pre w x 0 ((w.alloc (.cells cs 5)).drewN 2) := ⟨pw_below_drewN ((Below.refl _ w).alloc (Nat.le_refl _) _) 2, cs.toList, heap_alloc_new w _, by simpa using hle, fun j hj => absurd hj (by omega)⟩
  obtain ⟨Y, hr, hp1, -⟩ := copy_pre w x 0 1 ((w.alloc (.cells cs 5)).drewN 2) hp0 (by decide) ad 1 c0 64 3 (by decide) (fun j hj => by
    obtain rfl : j = 0 := by omega
    rw [Addr.add_zero']
    exact pw_cell_below hp0.1 hx0)
  rw [Nat.sub_zero] at hr
  have hr : (Builtin.copy_ #[24, 24] 3 #[.slice (some ⟨w.heap.size, 0, none⟩) 64 64, .slice (some ad) 1 c0]).run Tryd.prog ((w.alloc (.cells cs 5)).drewN 2) = .ok (.int .i64 1) Y := hr
  have HP1 := Aside0.mk hp1
  have i1 : (64 : Int) ≤ (cs.size : Int) := by omega
  clear hrunM hC hx hx0 hp0 hp1
  go_enter Tryd.func23, Tryd.ntmps23
  go_wp2_with (go_at_call 31; ((with_reducible refine (mul_any _).mono ?_)))
  rintro e w' ⟨rfl, rfl⟩
  go_wp2
  go_loopw [10] (fun v10 wr => ∃ k : Nat, 1 ≤ k ∧ k ≤ 64 ∧ v10 = .int .i64 (k : Int) ∧ Aside0 (Pre w x k wr)) (fun v10 _ => 64 - (intOf v10).toNat)
  case atStart => exact ⟨1, Nat.le_refl _, by decide, rfl, HP1⟩
  case round =>
    obtain ⟨k, hk1, hk, rfl, HP⟩ := hrel
    by_cases h64 : k < 64
    · have hp := HP.out
      obtain ⟨d, hdd⟩ : ∃ d, d = Nat.min k (64 - k) := ⟨_, rfl⟩
      have hd1 : 1 ≤ d := by rw [hdd]; exact Nat.le_min.2 ⟨hk1, by omega⟩
      have hd2 : d ≤ 64 - k := by rw [hdd]; exact Nat.min_le_right _ _
      have hd3 : d ≤ k := by rw [hdd]; exact Nat.min_le_left _ _
      have kk0 : (k : Int) < 64 := by omega
      have hsrc : ∀ X, Pre w x k X → ∀ j, j < d → X.cell? ((⟨w.heap.size, 0, none⟩ : Addr).add j) = some (.int .u8 x) := by
        rintro X ⟨-, cur, hg, hl, hc⟩ j hj
        rw [add_plain, cell_of_row X w.heap.size j _ _ _ hg]
        simpa using hc j (by omega)
      obtain ⟨i0, hi0, hz0, hz1, hz2⟩ := info_parts info5b
      have hsl1 : ∀ X : World, (Instr.slice 24 (.slice (some ⟨w.heap.size, 0, none⟩) 64 64) (some (.int .i64 (k : Int))) none none).run Tryd.prog X = .ok (.slice (some ⟨w.heap.size, k, none⟩) (64 - k) (64 - k)) X := by
        have h := cut_lo (P := Tryd.prog) 24 5 .i64 Tryd.underlying24 (some ⟨w.heap.size, 0, none⟩) 64 64 (k : Int) (by omega) (by omega) (Nat.le_refl _) hi0 hz1
        rw [Int.toNat_natCast, if_neg (by omega), Option.map_some, Nat.mul_one, add_plain] at h
        exact h
      have hsl2 : ∀ X : World, (Instr.slice 24 (.slice (some ⟨w.heap.size, 0, none⟩) 64 64) none (some (.int .i64 (k : Int))) none).run Tryd.prog X = .ok (.slice (some ⟨w.heap.size, 0, none⟩) k 64) X := by
        have h := cut_hi (P := Tryd.prog) 24 5 .i64 Tryd.underlying24 (some ⟨w.heap.size, 0, none⟩) 64 64 (k : Int) (by omega) (by omega) (Nat.le_refl _) hi0 hz1
        rw [Int.toNat_natCast] at h
        exact h
      have iw : IntKind.i64.wrap ((k : Int) + (d : Int)) = (k : Int) + (d : Int) := IntWalk.i64_in _ (by omega)
      have hp := HP.out
      have HDD := Aside0.mk hdd
      clear hi0 hz0 hz1 hz2 hr hdd
      go_wp2
      refine wp_region_inv2 (fun X => Pre w x k X) (fun X Y => ∀ j, Pre w x j X → Pre w x j Y) (BOf
          [some (.int .i64 (k : Int)), some (.slice (some ⟨w.heap.size, 0, none⟩) 64 64), some (.int .i64 (k : Int)), some (.slice (some ⟨w.heap.size, k, none⟩) (64 - k) (64 - k)), some (.slice (some ⟨w.heap.size, 0, none⟩) 64 64), some (.int .i64 (k : Int)), some (.slice (some ⟨w.heap.size, 0, none⟩) k 64), none, some (.int .i64 ((k : Int) + (d : Int))), some (.int .i64 ((k : Int) + (d : Int)))]
          [(7, fun v X => v = .int .i64 (d : Int) ∧ Pre w x (k + d) X)])
        (by kernel_rfl) (by kernel_rfl) (by kernel_rfl) (fun _ _ h => h) (fun i v w1 w2 h hs => ⟨h.1, fun e => ⟨(h.2.1 e).1, hs _ (h.2.1 e).2⟩, trivial⟩) hp.drew ?all1
      apply Exists.intro
      refine ⟨?hA1, ?steps1, ?fin1⟩
      case hA1 =>
        simp only [lay, Act.put, List.setIfInBounds_toArray, List.set_cons_zero, List.set_cons_succ]
        exact rfl
      case steps1 =>
        repeat' (first | exact Steps2.nil | refine Steps2.cons ?_ ?_)
        all_goals (intro us X F hC hd hu hF; (try have h9 : us 9 = .int .i64 (k : Int) := hu 9 (by decide)); clear hu; simp only [Deps, BOf, pureAt, spAt] at hd hF)
        all_goals (try simp only [Nat.reduceAdd, Nat.reduceEqDiff, false_implies, true_implies, and_true, true_and] at hd hF)
        all_goals (obtain ⟨Y, hr, hp2, hst⟩ := copy_pre w x k d X hC (by omega) ⟨w.heap.size, 0, none⟩ k 64 (64 - k) 3 HDD.out (hsrc X hC))
        all_goals go_simp
        all_goals (first
          | exact hF _ _ hC (fun _ h => h) rfl
          | exact hF _ _ (hst k hC) hst ⟨rfl, hp2⟩)
      case fin1 =>
        intro us X hC hB
        have h9 : us 9 = .int .i64 ((k : Int) + (d : Int)) := (hB 9 (by decide)).1
        have h7 := ((hB 7 (by decide)).2.1 rfl).2
        rw [h9]
        clear hB
        go_wp2
        go_roundw
        case rel => exact ⟨k + d, by omega, by omega, by go_num, ⟨h7⟩⟩
        case measure => simp [intOf]; omega
    · obtain rfl : k = 64 := by omega
      go_wp2
      go_ret
      exact ⟨rfl, HP.out⟩
end Go.Proofs.YtlddionmkblioaaDoor.E

/- mac.pad by hand. -/
namespace Go.Proofs.YtlddionmkblioaaDoor.E
open Go.RowKit Go.Proofs.YtlddionmkblioaaDoorW.PrintWords Go.Proofs.YtlddionmkblioaaDoorW.PrintLast Go.Proofs.YtlddionmkblioaaDoorW.PrintMore Go.Proofs.YtlddionmkblioaaDoor.Pr
set_option linter.unusedVariables false
set_option linter.unusedSimpArgs false
/-- A row of bytes that is read. -/
def RowB (P : List Int) (v : Value) (w : World) : Prop := ∃ B d, v = .slice B P.length d ∧ Kd.C (Kd.int .u8) w B P.length P ∧ P.length ≤ d
theorem RowB.sp (P : List Int) : SpBelow (RowB P) := fun v w w' h hb =>
  let ⟨B, d, e, hC, hd⟩ := h
  ⟨B, d, e, Kd.C_below hC hb, hd⟩
theorem RowB.of_R {P : List Int} {w : World} {n : Nat} {v : Value} (h : Kd.R (Kd.int .u8) 5 w n (fun _ => True) v P) : RowB P v w := by
  obtain ⟨B, d, rfl, hl, hC⟩ := Kd.R_reads h
  exact ⟨B, d, rfl, hC, hl⟩
theorem xor8 (a b : Nat) (ha : a < 256) (hb : b < 256) : bits .xor .u8 (a : Int) (b : Int) = ((a ^^^ b : Nat) : Int) := by
  have hb' : (2 : Nat) ^ IntKind.u8.bits = 256 := rfl
  have hx : a ^^^ b < 256 := Nat.xor_lt_two_pow (n := 8) ha hb
  simp only [bits, BitVec.ofInt_natCast, BitVec.toNat_xor, BitVec.toNat_ofNat, hb', Nat.mod_eq_of_lt ha, Nat.mod_eq_of_lt hb]
  rw [IntKind.wrap_u8]; omega
def keyL (l : List Int) : List Int := if l.length ≤ 64 then l else shaL l
def padK (l : List Int) (c : Nat) : List Int := (List.range 64).map fun i => ((((keyL l).getD i 0).toNat ^^^ c : Nat) : Int)
theorem padK_len (l : List Int) (c : Nat) : (padK l c).length = 64 := by simp [padK]
theorem keyL_bytes {l : List Int} (h : ∀ x ∈ l, 0 ≤ x ∧ x ≤ 255) : ∀ x ∈ keyL l, 0 ≤ x ∧ x ≤ 255 := by
  unfold keyL
  split
  · exact h
  · exact shaL_bytes l
theorem keyL_le (l : List Int) : (keyL l).length ≤ 64 := by
  unfold keyL
  split
  · assumption
  · rw [shaL_len]; decide
theorem padK_bytes {l : List Int} (h : ∀ x ∈ l, 0 ≤ x ∧ x ≤ 255) {c : Nat} (hc : c < 256) : ∀ x ∈ padK l c, 0 ≤ x ∧ x ≤ 255 := by
  intro x hx
  obtain ⟨i, _, rfl⟩ := List.mem_map.1 hx
  have hk : ((keyL l).getD i 0).toNat < 256 := by
    rw [List.getD_eq_getElem?_getD]
    cases hg : (keyL l)[i]? with
    | none => decide
    | some y => have := keyL_bytes h y (List.mem_of_getElem? hg); simp only [Option.getD_some]; omega
  have := Nat.xor_lt_two_pow (n := 8) hk hc
  omega
theorem row_of_cells (X : World) (g : Nat) (cur : List Value) (l : List Int) (hg : X.heap[g]? = some (.cells cur.toArray 5 (0, 0))) (hl : l.length ≤ 1000) (h : ∀ j, j < l.length → cur[j]? = some (.int .u8 (l.getD j 0))) : Kd.C (Kd.int .u8) X (some ⟨g, 0, none⟩) l.length l := by
  refine Kd.C_of_reads (d := (0 : Int)) (h1 := fun _ => rfl) ⟨rfl, by omega, fun hn => ⟨_, rfl, fun j hj => ?_⟩⟩
  rw [add_plain, cell_of_row X g j _ _ _ hg]
  simpa using h j hj
/-- The pad, so many bytes of the key laid over it. -/
def PadAt (w : World) (kl : List Int) (c i : Nat) (X : World) : Prop := Below w.heap.size w X ∧ ∃ cur : List Value, X.heap[w.heap.size]? = some (.cells cur.toArray 5 (0, 0)) ∧ 64 ≤ cur.length ∧
  ∀ j, j < 64 → cur[j]? = some (.int .u8 (if j < i then (((kl.getD j 0).toNat ^^^ c : Nat) : Int) else (c : Int)))
set_option maxRecDepth 100000 in
set_option maxHeartbeats 8000000 in
theorem pad_any (A : Option Addr) (c0 : Nat) (l : List Int) (cc : Nat) (hcc : cc < 256) (W : World) (hr : Kd.C (Kd.int .u8) W A l.length l) (hc : l.length ≤ c0) (hb : ∀ x ∈ l, 0 ≤ x ∧ x ≤ 255) (hl : l.length ≤ 1000000) (hG : RootsIn W) :
    Calls Tryd.prog 14 #[.slice A l.length c0, .int .u8 (cc : Int)] W fun e w' => ∃ v, e = .returned v ∧ RowB (padK l cc) v w' ∧ Below W.heap.size W w' := by
  have hpk : padK l cc = (List.range 64).map fun i => ((((keyL l).getD i 0).toNat ^^^ cc : Nat) : Int) := rfl
  have hkb := keyL_bytes hb
  have hkl := keyL_le l
  have HR := Aside0.mk hr
  by_cases h64 : l.length ≤ 64
  · have h3 : ¬ (64 : Int) < (l.length : Int) := by omega
    have hke : keyL l = l := if_pos h64
    rw [hke] at hpk hkb hkl
    obtain ⟨PD, hPD⟩ : ∃ P, P = padK l cc := ⟨_, rfl⟩
    rw [← hPD] at hpk ⊢
    have HPK := Aside0.mk hpk
    have HKB := Aside0.mk hkb
    obtain ⟨kl, hkle⟩ : ∃ kl, kl = l := ⟨_, rfl⟩
    have HB0 := Aside0.mk (Below.refl W.heap.size W)
    have HCK := Aside0.mk hr
    obtain ⟨n, hn⟩ : ∃ n, n = l.length := ⟨_, rfl⟩
    rw [← hn] at HCK hkl h3 ⊢
    rw [← hkle] at HPK HKB HCK
    have hnl : n = kl.length := by rw [hn, hkle]
    have HNL := Aside0.mk hnl
    clear hr hb hG hc hl h64 hpk hkb hke hPD hkle hn hnl
    go_enter Tryd.func14, Tryd.ntmps14
    obtain ⟨B, hBA⟩ : ∃ B, B = A := ⟨_, rfl⟩
    rw [← hBA] at HCK ⊢
    clear hBA
    have hrep := fun (X : World) => rep64 (some ⟨X.heap.size, 0, none⟩) 1 (cc : Int) (X.alloc (.cells #[.int .u8 (cc : Int)] 5)) (lit_C X [(cc : Int)] (0, 0) (by simp))
    have HREP := Aside0.mk hrep
    clear hrep
    go_wp2_with (go_at_call 23; ((with_reducible refine (HREP.out _).mono ?_); rintro e w3 ⟨rfl, hp⟩); have HPR := Aside0.mk hp; clear hp)
    obtain ⟨Wb, hWb⟩ : ∃ Wb, Wb = W.alloc (.cells #[.int .u8 (cc : Int)] 5) := ⟨_, rfl⟩
    have hszb : Wb.heap.size = W.heap.size + 1 := by rw [hWb, World.size_alloc]
    have hp0 : PadAt Wb kl cc 0 w3 := by
      rw [hWb]
      obtain ⟨h1, cur, h2, h3, h4⟩ := HPR.out
      exact ⟨h1, cur, h2, h3, fun j hj => by rw [if_neg (by omega)]; exact h4 j hj⟩
    have HBb : Aside0 (Below W.heap.size W Wb) := ⟨by rw [hWb]; exact HB0.out.alloc HB0.out.size _⟩
    have HCb : Aside0 (Kd.C (Kd.int .u8) Wb B n kl) := ⟨by rw [hWb]; exact Kd.C_alloc HCK.out _⟩
    have HP0 := Aside0.mk hp0
    rw [← hszb]
    clear HPR hp0 hWb hszb HREP HCK HB0
    go_loopw [19] (fun v19 wr => ∃ i : Nat, i ≤ n ∧ v19 = .int .i64 (i : Int) ∧ Aside0 (PadAt Wb kl cc i wr)) (fun v19 _ => n - (intOf v19).toNat)
    case atStart => exact ⟨0, Nat.zero_le _, rfl, HP0⟩
    case round =>
      obtain ⟨i, hi, rfl, HP⟩ := hrel
      by_cases hin : i < n
      · obtain ⟨hbw, cur, hg, hcl, hcur⟩ := HP.out
        obtain ⟨ad, rfl, hx⟩ := Kd.at_int (Kd.C_below HCb.out hbw) (i : Int) (by omega) (by omega)
        rw [Int.toNat_natCast] at hx
        have hxb := HKB.out (rd kl (i : Int)) (rd_mem (by rw [← HNL.out]; exact hin))
        obtain ⟨x, hxe⟩ : ∃ x : Nat, rd kl (i : Int) = (x : Int) := ⟨(rd kl (i : Int)).toNat, by omega⟩
        rw [hxe] at hx hxb
        have hx256 : x < 256 := by omega
        have hci : wr.cell? ⟨Wb.heap.size, i, none⟩ = some (.int .u8 (cc : Int)) := by
          rw [cell_of_row wr Wb.heap.size i _ _ _ hg]
          have := hcur i (by omega)
          rw [if_neg (by omega)] at this
          simpa using this
        have hfi := blk_frozen hg i
        have hxr := xor8 cc x hcc hx256
        have hnew : PadAt Wb kl cc (i + 1) (wr.setCell ⟨Wb.heap.size, i, none⟩ (.int .u8 ((cc ^^^ x : Nat) : Int))) := by
          refine ⟨hbw.setCell (Nat.le_refl _) _, cur.set i (.int .u8 ((cc ^^^ x : Nat) : Int)), ?_, by rw [List.length_set]; exact hcl, fun j hj => ?_⟩
          · have h1 := blk_set hg i (Value.int .u8 ((cc ^^^ x : Nat) : Int))
            simpa only [List.setIfInBounds_toArray] using h1
          · rw [List.getElem?_set]
            by_cases hij : i = j
            · subst hij
              rw [if_pos rfl, if_pos (by omega), if_pos (by omega)]
              have : kl.getD i 0 = (x : Int) := by have := hxe; simpa [rd] using this
              rw [this, Int.toNat_natCast, Nat.xor_comm]
            · rw [if_neg hij, hcur j hj]
              by_cases hji : j < i
              · rw [if_pos hji, if_pos (by omega)]
              · rw [if_neg hji, if_neg (by omega)]
        have HNEW := Aside0.mk hnew
        have kk0 : (i : Int) < (n : Int) := by omega
        have kk1 : (i : Int) < 64 := by omega
        clear hbw hg hcl hcur hxe hnew
        go_wp2
        go_roundw
        case rel => exact ⟨i + 1, by omega, by go_num, HNEW⟩
        case measure => simp [intOf]; omega
      · obtain rfl : i = n := by omega
        go_wp2
        go_ret
        obtain ⟨hbw, cur, hg, hcl, hcur⟩ := HP.out
        have hpl : PD.length = 64 := by rw [HPK.out]; simp
        have hrow := row_of_cells wr Wb.heap.size cur PD hg (by omega) (fun j hj => by
          rw [hcur j (by omega), HPK.out]
          have e : ((List.range 64).map fun i => (((kl.getD i 0).toNat ^^^ cc : Nat) : Int)).getD j 0 = (((kl.getD j 0).toNat ^^^ cc : Nat) : Int) := by
            rw [List.getD_eq_getElem?_getD, List.getElem?_map, List.getElem?_range (by omega)]; rfl
          rw [e]
          by_cases hji : j < i
          · rw [if_pos hji]
          · rw [if_neg hji]
            have : kl.getD j 0 = 0 := by rw [List.getD_eq_getElem?_getD, List.getElem?_eq_none (by rw [← HNL.out]; omega)]; rfl
            rw [this]; simp)
        rw [hpl] at hrow
        exact ⟨_, rfl, ⟨some ⟨Wb.heap.size, 0, none⟩, 64, by rw [hpl]; rfl, by rw [hpl]; exact hrow, by rw [hpl]; exact Nat.le_refl _⟩, below_step HBb.out hbw⟩
  · have h3 : (64 : Int) < (l.length : Int) := by omega
    have hke : keyL l = shaL l := if_neg h64
    rw [hke] at hpk hkb hkl
    obtain ⟨PD, hPD⟩ : ∃ P, P = padK l cc := ⟨_, rfl⟩
    rw [← hPD] at hpk ⊢
    have HPK := Aside0.mk hpk
    have HKB := Aside0.mk hkb
    have hsum := fun (X : World) (hX : Below W.heap.size W (X.alloc (.cells #[.slice A l.length c0] 24))) => sum1 X A l.length c0 l (Kd.C_below hr hX) hc hl hb (hG.below rfl hX)
    have hkl2 := shaL_len l
    obtain ⟨kl, hkle⟩ : ∃ kl, kl = shaL l := ⟨_, rfl⟩
    simp only [← hkle] at hsum
    rw [← hkle] at HPK HKB hkl2 hkl
    have HSUM := Aside0.mk hsum
    clear hr hb hG hc hl h64 hpk hkb hke hPD hkle hsum
    go_enter Tryd.func14, Tryd.ntmps14
    go_wp2_with (go_at_call 13; ((with_reducible refine (HSUM.out _ ?hN).mono ?_)))
    case hN => exact (Below.refl _ W).alloc (Nat.le_refl _) _
    rintro e W1 ⟨v1, rfl, hR1, hb1⟩
    obtain ⟨B, d, rfl, hl1, hC1⟩ := Kd.R_reads hR1
    rw [hkl2] at hC1 hl1 ⊢
    have HB0 := Aside0.mk (below_step ((Below.refl _ W).alloc (Nat.le_refl _) (.cells #[.slice A l.length c0] 24)) hb1)
    have HNL := Aside0.mk hkl2.symm
    obtain ⟨n, hn⟩ : ∃ n, n = 32 := ⟨_, rfl⟩
    rw [← hn] at HNL hC1 ⊢
    have HCK := Aside0.mk hC1
    have hkl : n ≤ 64 := by omega
    clear hR1 hb1 hl1 hC1 hn hkl2 HSUM
    have hrep := fun (X : World) => rep64 (some ⟨X.heap.size, 0, none⟩) 1 (cc : Int) (X.alloc (.cells #[.int .u8 (cc : Int)] 5)) (lit_C X [(cc : Int)] (0, 0) (by simp))
    have HREP := Aside0.mk hrep
    clear hrep
    go_wp2_with (go_at_call 23; ((with_reducible refine (HREP.out _).mono ?_); rintro e w3 ⟨rfl, hp⟩); have HPR := Aside0.mk hp; clear hp)
    obtain ⟨Wb, hWb⟩ : ∃ Wb, Wb = W1.alloc (.cells #[.int .u8 (cc : Int)] 5) := ⟨_, rfl⟩
    have hszb : Wb.heap.size = W1.heap.size + 1 := by rw [hWb, World.size_alloc]
    have hp0 : PadAt Wb kl cc 0 w3 := by
      rw [hWb]
      obtain ⟨h1, cur, h2, h3, h4⟩ := HPR.out
      exact ⟨h1, cur, h2, h3, fun j hj => by rw [if_neg (by omega)]; exact h4 j hj⟩
    have HBb : Aside0 (Below W.heap.size W Wb) := ⟨by rw [hWb]; exact HB0.out.alloc HB0.out.size _⟩
    have HCb : Aside0 (Kd.C (Kd.int .u8) Wb B n kl) := ⟨by rw [hWb]; exact Kd.C_alloc HCK.out _⟩
    have HP0 := Aside0.mk hp0
    rw [← hszb]
    clear HPR hp0 hWb hszb HREP HCK HB0
    go_loopw [19] (fun v19 wr => ∃ i : Nat, i ≤ n ∧ v19 = .int .i64 (i : Int) ∧ Aside0 (PadAt Wb kl cc i wr)) (fun v19 _ => n - (intOf v19).toNat)
    case atStart => exact ⟨0, Nat.zero_le _, rfl, HP0⟩
    case round =>
      obtain ⟨i, hi, rfl, HP⟩ := hrel
      by_cases hin : i < n
      · obtain ⟨hbw, cur, hg, hcl, hcur⟩ := HP.out
        obtain ⟨ad, rfl, hx⟩ := Kd.at_int (Kd.C_below HCb.out hbw) (i : Int) (by omega) (by omega)
        rw [Int.toNat_natCast] at hx
        have hxb := HKB.out (rd kl (i : Int)) (rd_mem (by rw [← HNL.out]; exact hin))
        obtain ⟨x, hxe⟩ : ∃ x : Nat, rd kl (i : Int) = (x : Int) := ⟨(rd kl (i : Int)).toNat, by omega⟩
        rw [hxe] at hx hxb
        have hx256 : x < 256 := by omega
        have hci : wr.cell? ⟨Wb.heap.size, i, none⟩ = some (.int .u8 (cc : Int)) := by
          rw [cell_of_row wr Wb.heap.size i _ _ _ hg]
          have := hcur i (by omega)
          rw [if_neg (by omega)] at this
          simpa using this
        have hfi := blk_frozen hg i
        have hxr := xor8 cc x hcc hx256
        have hnew : PadAt Wb kl cc (i + 1) (wr.setCell ⟨Wb.heap.size, i, none⟩ (.int .u8 ((cc ^^^ x : Nat) : Int))) := by
          refine ⟨hbw.setCell (Nat.le_refl _) _, cur.set i (.int .u8 ((cc ^^^ x : Nat) : Int)), ?_, by rw [List.length_set]; exact hcl, fun j hj => ?_⟩
          · have h1 := blk_set hg i (Value.int .u8 ((cc ^^^ x : Nat) : Int))
            simpa only [List.setIfInBounds_toArray] using h1
          · rw [List.getElem?_set]
            by_cases hij : i = j
            · subst hij
              rw [if_pos rfl, if_pos (by omega), if_pos (by omega)]
              have : kl.getD i 0 = (x : Int) := by have := hxe; simpa [rd] using this
              rw [this, Int.toNat_natCast, Nat.xor_comm]
            · rw [if_neg hij, hcur j hj]
              by_cases hji : j < i
              · rw [if_pos hji, if_pos (by omega)]
              · rw [if_neg hji, if_neg (by omega)]
        have HNEW := Aside0.mk hnew
        have kk0 : (i : Int) < (n : Int) := by omega
        have kk1 : (i : Int) < 64 := by omega
        clear hbw hg hcl hcur hxe hnew
        go_wp2
        go_roundw
        case rel => exact ⟨i + 1, by omega, by go_num, HNEW⟩
        case measure => simp [intOf]; omega
      · obtain rfl : i = n := by omega
        go_wp2
        go_ret
        obtain ⟨hbw, cur, hg, hcl, hcur⟩ := HP.out
        have hpl : PD.length = 64 := by rw [HPK.out]; simp
        have hrow := row_of_cells wr Wb.heap.size cur PD hg (by omega) (fun j hj => by
          rw [hcur j (by omega), HPK.out]
          have e : ((List.range 64).map fun i => (((kl.getD i 0).toNat ^^^ cc : Nat) : Int)).getD j 0 = (((kl.getD j 0).toNat ^^^ cc : Nat) : Int) := by
            rw [List.getD_eq_getElem?_getD, List.getElem?_map, List.getElem?_range (by omega)]; rfl
          rw [e]
          by_cases hji : j < i
          · rw [if_pos hji]
          · rw [if_neg hji]
            have : kl.getD j 0 = 0 := by rw [List.getD_eq_getElem?_getD, List.getElem?_eq_none (by rw [← HNL.out]; omega)]; rfl
            rw [this]; simp)
        rw [hpl] at hrow
        exact ⟨_, rfl, ⟨some ⟨Wb.heap.size, 0, none⟩, 64, by rw [hpl]; rfl, by rw [hpl]; exact hrow, by rw [hpl]; exact Nat.le_refl _⟩, below_step HBb.out hbw⟩
end Go.Proofs.YtlddionmkblioaaDoor.E

/- mac.Code, kdf.Round by hand. -/
namespace Go.Proofs.YtlddionmkblioaaDoor.E
open Go.RowKit Go.Proofs.YtlddionmkblioaaDoorW.PrintWords Go.Proofs.YtlddionmkblioaaDoorW.PrintLast Go.Proofs.YtlddionmkblioaaDoorW.PrintMore Go.Proofs.YtlddionmkblioaaDoor.Pr
set_option linter.unusedVariables false
set_option linter.unusedSimpArgs false
def codeL (k m : List Int) : List Int := shaL (padK k 92 ++ shaL (padK k 54 ++ m))
theorem bytes_app {a b : List Int} (ha : ∀ x ∈ a, 0 ≤ x ∧ x ≤ 255) (hb : ∀ x ∈ b, 0 ≤ x ∧ x ≤ 255) : ∀ x ∈ a ++ b, 0 ≤ x ∧ x ≤ 255 := fun x hx => (List.mem_append.1 hx).elim (ha x) (hb x)
set_option maxRecDepth 100000 in
set_option maxHeartbeats 8000000 in
theorem code_any (A0 : Option Addr) (c0 : Nat) (l0 : List Int) (A1 : Option Addr) (c1 : Nat) (l1 : List Int) (W : World) (hr0 : Kd.C (Kd.int .u8) W A0 l0.length l0) (hc0 : l0.length ≤ c0) (hb0 : ∀ x ∈ l0, 0 ≤ x ∧ x ≤ 255) (hl0 : l0.length ≤ 1000000)
    (hr1 : Kd.C (Kd.int .u8) W A1 l1.length l1) (hc1 : l1.length ≤ c1) (hb1 : ∀ x ∈ l1, 0 ≤ x ∧ x ≤ 255) (hl1 : l1.length ≤ 900000) (hG : RootsIn W) :
    Calls Tryd.prog 9 #[.slice A0 l0.length c0, .slice A1 l1.length c1] W fun e w' => ∃ v, e = .returned v ∧ Kd.R (Kd.int .u8) 5 w' W.heap.size (fun _ => True) v (codeL l0 l1) ∧ Below W.heap.size W w' := by
  have h92 : ∀ X, Below W.heap.size W X → Calls Tryd.prog 14 #[.slice A0 l0.length c0, .int .u8 92] X fun e w' => ∃ v, e = .returned v ∧ RowB (padK l0 92) v w' ∧ Below X.heap.size X w' := fun X hX => pad_any A0 c0 l0 92 (by decide) X (Kd.C_below hr0 hX) hc0 hb0 hl0 (hG.below rfl hX)
  have h54 : ∀ X, Below W.heap.size W X → Calls Tryd.prog 14 #[.slice A0 l0.length c0, .int .u8 54] X fun e w' => ∃ v, e = .returned v ∧ RowB (padK l0 54) v w' ∧ Below X.heap.size X w' := fun X hX => pad_any A0 c0 l0 54 (by decide) X (Kd.C_below hr0 hX) hc0 hb0 hl0 (hG.below rfl hX)
  have p92 := padK_len l0 92
  have p54 := padK_len l0 54
  have b92 := padK_bytes hb0 (c := 92) (by decide)
  have b54 := padK_bytes hb0 (c := 54) (by decide)
  obtain ⟨P, hP⟩ : ∃ P, P = padK l0 92 := ⟨_, rfl⟩
  obtain ⟨Q, hQ⟩ : ∃ Q, Q = padK l0 54 := ⟨_, rfl⟩
  have hcode : codeL l0 l1 = shaL (P ++ shaL (Q ++ l1)) := by rw [hP, hQ]; rfl
  rw [← hP] at h92 p92 b92
  rw [← hQ] at h54 p54 b54
  have H92 := Aside0.mk h92
  have H54 := Aside0.mk h54
  have P92 := Aside0.mk p92
  have P54 := Aside0.mk p54
  have B92 := Aside0.mk b92
  have B54 := Aside0.mk b54
  have HR1 := Aside0.mk hr1
  have HB1 := Aside0.mk hb1
  have HG := Aside0.mk hG
  have HCODE := Aside0.mk hcode
  clear h92 h54 p92 p54 b92 b54 hP hQ hcode hr0 hb0 hr1 hb1 hG
  go_enter Tryd.func9, Tryd.ntmps9
  go_wp2_with (go_at_call 14; ((with_reducible refine (H92.out _ (Below.refl _ _)).mono ?_)))
  rintro e w1 ⟨v1, rfl, ⟨B1, d1, rfl, hC1, hd1⟩, hb1⟩
  rw [P92.out] at hC1 hd1 ⊢
  have HC1 := Aside0.mk hC1
  have HW1 := Aside0.mk hb1
  clear hC1 hb1
  go_wp2_with (go_at_call 14; ((with_reducible refine (H54.out _ HW1.out).mono ?_)))
  rintro e w2 ⟨v2, rfl, ⟨B2, d2, rfl, hC2, hd2⟩, hb2⟩
  rw [P54.out] at hC2 hd2 ⊢
  have HC1 := Aside0.mk (Kd.C_below HC1.out hb2)
  have HC2 := Aside0.mk hC2
  have HW2 := Aside0.mk (below_step HW1.out hb2)
  have hs1 := sum2 w2 B2 64 d2 Q A1 l1.length c1 l1 (Kd.C_alloc hC2 _) hd2 (Kd.C_alloc (Kd.C_below HR1.out HW2.out) _) hc1 (Q ++ l1) rfl (by rw [List.length_append, P54.out]; omega) (bytes_app B54.out HB1.out) (HG.out.below rfl (HW2.out.alloc HW2.out.size _))
  have HS1 := Aside0.mk hs1
  clear hC2 hb2 hs1 HW1
  go_wp2_with (go_at_call 13; ((with_reducible refine (HS1.out).mono ?_)))
  rintro e w3 ⟨v3, rfl, hR3, hb3⟩
  obtain ⟨B3, d3, rfl, hl3, hC3⟩ := Kd.R_reads hR3
  have e32 := shaL_len (Q ++ l1)
  rw [e32] at hC3 hl3 ⊢
  have HW3 := Aside0.mk (below_step (HW2.out.alloc HW2.out.size (.cells #[.slice B2 64 d2, .slice A1 l1.length c1] 24)) hb3)
  have hC13 := Kd.C_below (Kd.C_alloc HC1.out (.cells #[.slice B2 64 d2, .slice A1 l1.length c1] 24)) hb3
  have hs2 := sum2 w3 B1 64 d1 P B3 32 d3 (shaL (Q ++ l1)) (Kd.C_alloc hC13 _) hd1 (Kd.C_alloc hC3 _) hl3 (P ++ shaL (Q ++ l1)) rfl (by rw [List.length_append, P92.out, e32]; decide) (bytes_app B92.out (shaL_bytes _)) (HG.out.below rfl (HW3.out.alloc HW3.out.size _))
  have HS2 := Aside0.mk hs2
  clear hR3 hb3 hC3 hC13 hs2 e32 HS1
  go_wp2_with (go_at_call 13; ((with_reducible refine (HS2.out).mono ?_)))
  rintro e w4 ⟨v4, rfl, hR4, hb4⟩
  have HW4 := Aside0.mk (below_step (HW3.out.alloc HW3.out.size (.cells #[.slice B1 64 d1, .slice B3 32 d3] 24)) hb4)
  have HV := Aside0.mk (show Kd.R (Kd.int .u8) 5 w4 W.heap.size (fun _ => True) v4 (codeL l0 l1) by rw [HCODE.out]; exact Kd.R_lower hR4 (HW3.out.alloc HW3.out.size _).size)
  clear hR4 hb4
  go_wp2
  go_ret
  exact ⟨_, rfl, HV.out, HW4.out⟩
theorem SumVal.of_R {P : List Int} {w : World} {n : Nat} {v : Value} (h : Kd.R (Kd.int .u8) 5 w n (fun _ => True) v P) (hp : P.length = 32) : SumVal P v w := by
  obtain ⟨B, d, rfl, hl, hC⟩ := Kd.R_reads h
  rw [hp] at hC hl ⊢
  exact ⟨B, d, rfl, hC, hl⟩
end Go.Proofs.YtlddionmkblioaaDoor.E


