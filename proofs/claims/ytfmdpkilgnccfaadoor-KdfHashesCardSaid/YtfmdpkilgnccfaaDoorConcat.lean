/- slices.Grow at nil, and slices.Concat, at rows of bytes. -/
import Derived.Test.YtfmdpkilgnccfaaDoorBase
namespace Go.Proofs.YtfmdpkilgnccfaaDoor.E
open Go.RowKit Go.Proofs.YtfmdpkilgnccfaaDoorW.PrintWords Go.Proofs.YtfmdpkilgnccfaaDoorW.PrintLast Go.Proofs.YtfmdpkilgnccfaaDoorW.PrintMore Go.Proofs.YtfmdpkilgnccfaaDoor.Pr
set_option linter.unusedVariables false
set_option linter.unusedSimpArgs false
theorem info5c : (Tryd.prog.info? 5).map (fun i => (i.zero, i.size, i.bytes)) = some (some (.int .u8 0), 1, 1) := by kernel_rfl
set_option maxHeartbeats 4000000 in
set_option maxRecDepth 100000 in
theorem grow_nil (n : Nat) (hn : n ≤ 140737488355328) (w : World) :
    Calls Tryd.prog 59 #[.slice none 0 0, .int .i64 (n : Int)] w fun e w' => ∃ v, e = .returned v ∧ Kd.R (Kd.int .u8) 5 w' w.heap.size (fun _ => True) v [] ∧ Below w.heap.size w w' := by
  obtain ⟨i0, hi, hz0, hz1, hz2⟩ := info_parts info5c
  by_cases h0 : 0 < n
  · go_enter Tryd.func59, Tryd.ntmps59
    have HB := Aside0.mk (Below.refl w.heap.size w)
    go_wp2_with (at_builtin; refine Kd.R_append_zeros (Kd.int .u8) (w0 := w) w.heap.size rfl (.tmp 20) (.tmp 21) 22 3 5 (.int .u8 0) 1 rfl Tryd.underlying22 Tryd.underlying3 info5c rfl (by decide) (by omega) (.slice none 0 0) [] 0 (n : Int) (fun _ => True) rfl rfl rfl (fun _ _ => trivial) (Kd.R_nil _ _ _ _ _) (by omega) HB.out (Nat.le_refl _) ?aL ?_)
    case aL => simp; omega
    intro v1 w1 hr hb _ _
    obtain ⟨A, c, rfl⟩ : ∃ A c, v1 = .slice A n c := by
      obtain ⟨inner, ho⟩ := Kd.R_own hr
      obtain ⟨A, c, hv⟩ := own_slice ho
      exact ⟨A, c, by rw [hv]; simp⟩
    have hcut := cut_to (P := Tryd.prog) 22 5 .i64 Tryd.underlying22 hi A n c 0 (by omega) (by omega) (by have := (Kd.R_reads' hr).2.1; omega)
    have ht := Kd.R_take hr (m := 0) (Nat.zero_le _)
    have HT := Aside0.mk ht
    have HB1 := Aside0.mk hb
    clear ht hb hr
    go_wp2
    go_ret
    exact ⟨_, rfl, by simpa using HT.out, HB1.out⟩
  · obtain rfl : n = 0 := by omega
    go_enter Tryd.func59, Tryd.ntmps59
    go_wp2
    go_ret
    exact ⟨_, rfl, Kd.R_nil _ _ _ _ _, Below.refl _ _⟩
def slices_Concat_byte_byte.f (l0 : List (List Int)) : Option (List Int) := if l0.flatten.length ≤ 140737488355328 then some l0.flatten else none
theorem flat_le (l : List (List Int)) (k : Nat) : (l.take k).flatten.length ≤ l.flatten.length := by
  have h := congrArg (fun x => x.flatten.length) (List.take_append_drop k l)
  simp only [List.flatten_append, List.length_append] at h
  omega
set_option maxHeartbeats 4000000 in
set_option maxRecDepth 100000 in
theorem slices_Concat_byte_byte.calls (A0 : Option Addr) (c0 : Nat) (l0 : List (List Int)) (r : List Int) (w : World) (hr0 : Kd.C (Kd.slice 5 (Kd.int .u8)) w A0 l0.length l0) (hc0 : l0.length ≤ c0) (h : slices_Concat_byte_byte.f l0 = some r) :
    Calls Tryd.prog 45 #[.slice A0 l0.length c0] w fun e w' => ∃ v0_ : Value, e = .returned (v0_) ∧ Kd.R (Kd.int .u8) 5 w' w.heap.size (fun _ => True) v0_ r ∧ Below w.heap.size w w' := by
  unfold slices_Concat_byte_byte.f at h
  split at h
  · rename_i hbig
    injection h with h
    have HBIG := Aside0.mk hbig
    have HR := Aside0.mk h
    have HR0 := Aside0.mk hr0
    have hmx := Kd.C_max hr0
    clear hbig h hr0
    go_enter Tryd.func45, Tryd.ntmps45
    go_wp2
    go_loopg [3, 11] l0.length (fun gk v3 v11 wr => ∃ (k : Nat), k ≤ l0.length ∧ v11 = .int .i64 k ∧ v3 = .int .i64 ((l0.take k).flatten.length : Nat) ∧ Aside0 (k + gk = l0.length) ∧ w = wr)
    case atStart => exact ⟨0, Nat.zero_le _, rfl, rfl, ⟨by omega⟩, rfl⟩
    case round =>
      obtain ⟨k, hk, rfl, rfl, hgk, rfl⟩ := hrel
      by_cases hp : k < l0.length
      · obtain ⟨ad, A1, c1, rfl, hx, hc1, hr1⟩ := at_LL HR0.out (k : Int) (by omega) (by omega)
        have hx' : w.cell? (ad.add k) = some (.slice A1 (rdR l0 k).length c1) := by simpa using hx
        have hpre := congrArg (fun x => x.flatten.length) (take_rdR hp)
        simp only [List.flatten_append, List.length_append, List.flatten_cons, List.flatten_nil, List.append_nil] at hpre
        have hle := flat_le l0 (k + 1)
        have hbg := HBIG.out
        obtain ⟨R, hR⟩ : ∃ R, R = (rdR l0 k).length := ⟨_, rfl⟩
        obtain ⟨S, hS⟩ : ∃ S, S = (l0.take k).flatten.length := ⟨_, rfl⟩
        rw [← hR] at hx' hpre
        rw [← hS] at hpre ⊢
        have hb1 : S + R ≤ 140737488355328 := by omega
        have HP := Aside0.mk hpre
        have HS := Aside0.mk hS
        clear hx hr1 hpre hR hle hS hbg
        go_wp2
        go_roundg (l0.length - (k + 1))
        case measure => have := hgk.out; omega
        case rel => exact ⟨k + 1, by omega, by go_num, by rw [HP.out]; go_num, ⟨by omega⟩, rfl⟩
      · obtain rfl : k = l0.length := by omega
        rw [List.take_length]
        have hbg := HBIG.out
        obtain ⟨N, hN⟩ : ∃ N, N = l0.flatten.length := ⟨_, rfl⟩
        rw [← hN] at hbg ⊢
        have HN := Aside0.mk hN
        clear hN
        go_wp2_with (go_at_call 59; refine (grow_nil N hbg _).mono ?_; rintro e w1 ⟨v, rfl, hv, hb⟩)
        have HV := Aside0.mk hv
        have HB := Aside0.mk hb
        clear hv hb
        obtain ⟨A1, cc, rfl⟩ : ∃ A cc, v = .slice A 0 cc := by
          obtain ⟨inner, ho⟩ := Kd.R_own HV.out
          exact own_slice ho
        go_wp2
        go_loopw [6, 27] (fun v6 v27 w2 => ∃ (k : Nat), k ≤ l0.length ∧ v27 = .int .i64 k ∧ Aside0 (Kd.R (Kd.int .u8) 5 w2 w.heap.size (fun _ => True) v6 (l0.take k).flatten) ∧ Aside0 (Below w.heap.size w w2)) (fun _ v27 _ => l0.length - (intOf v27).toNat)
        case atStart => exact ⟨0, Nat.zero_le _, rfl, HV, HB⟩
        case round =>
          obtain ⟨k, hk, rfl, HV2, HB2⟩ := hrel
          by_cases hp : k < l0.length
          · obtain ⟨ad, A2, c2, rfl, hx, hc2, hr2⟩ := at_LL (Kd.C_below HR0.out HB2.out) (k : Int) (by omega) (by omega)
            have hx' : wr.cell? (ad.add k) = some (.slice A2 (rdR l0 k).length c2) := by simpa using hx
            have hpre := take_rdR hp
            have hle := flat_le l0 (k + 1)
            rw [hpre] at hle
            have hm2 := Kd.C_max hr2
            obtain ⟨R, hR⟩ : ∃ R, R = rdR l0 k := ⟨_, rfl⟩
            rw [← hR] at hx' hpre hle hr2 hm2 hc2
            simp only [List.flatten_append, List.length_append, List.flatten_cons, List.flatten_nil, List.append_nil] at hle
            have hbg := HBIG.out
            have hl : ((l0.take k).flatten.length + R.length) * 1 ≤ 140737488355328 := by omega
            have hflat : (l0.take (k + 1)).flatten = (l0.take k).flatten ++ R := by rw [hpre]; simp
            have HL := Aside0.mk hl
            have HF := Aside0.mk hflat
            have HRD := Aside0.mk hr2
            obtain ⟨S, hS⟩ : ∃ S, S = (l0.take k).flatten := ⟨_, rfl⟩
            rw [← hS] at HV2 HL HF
            have hsz := HB2.out.size
            clear hx hpre hR hle hl hflat hr2 hS hbg
            go_wp2_with (at_builtin; refine Kd.R_append_rows (Kd.int .u8) (w0 := w) w.heap.size rfl (.tmp 31) (.tmp 32) 22 5 (.int .u8 0) 1 rfl Tryd.underlying22 info5c rfl (by decide) (by omega) _ S R A2 R.length c2 (fun _ => True) (fun _ => False) rfl rfl HV2.out HRD.out (fun _ _ h => h) (fun _ h => h.elim) (fun _ _ => trivial) HB2.out hsz HL.out ?_)
            intro v1 w3 ho hb _ _
            rw [← HF.out] at ho
            have HO := Aside0.mk ho
            have HBB := Aside0.mk hb
            clear ho hb
            go_wp2
            go_roundw
            case rel => exact ⟨k + 1, by omega, by go_num, HO, HBB⟩
            case measure => simp [intOf]; omega
          · obtain rfl : k = l0.length := by omega
            rw [List.take_length, HR.out] at HV2
            go_wp2
            go_ret
            exact ⟨_, rfl, HV2.out, HB2.out⟩
  · cases h
end Go.Proofs.YtfmdpkilgnccfaaDoor.E
