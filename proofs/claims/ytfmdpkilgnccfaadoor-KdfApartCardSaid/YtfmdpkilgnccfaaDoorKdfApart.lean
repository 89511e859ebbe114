/- KdfApart by hand. -/
import Derived.Test.YtfmdpkilgnccfaaDoorKdf
import Derived.Test.YtfmdpkilgnccfaaDoorWZeros
namespace Go.Proofs.YtfmdpkilgnccfaaDoor.Pure
open Go.RowKit Go.Proofs.YtfmdpkilgnccfaaDoorW.PrintWords Go.Proofs.YtfmdpkilgnccfaaDoorW.PrintLast Go.Proofs.YtfmdpkilgnccfaaDoorW.PrintMore Go.Proofs.YtfmdpkilgnccfaaDoor.Pr Go.Proofs.YtfmdpkilgnccfaaDoor.E
set_option linter.unusedVariables false
set_option linter.unusedSimpArgs false
attribute [local go_sem] opVal opUpon
def HashPost (H : List Int) (X : World) (e : Ending) (w' : World) : Prop := ∃ v, e = .returned v ∧ SumVal H v w' ∧ Below X.heap.size X w'
set_option maxHeartbeats 8000000 in
set_option maxRecDepth 100000 in
theorem KdfApart_at (W : World) (A0 : Option Addr) (c0 : Nat) (l0 : List Int) (hr0 : Kd.C (Kd.int .u8) W A0 l0.length l0) (hc0 : l0.length ≤ c0) (hb0 : ∀ x ∈ l0, 0 ≤ x ∧ x ≤ 255) (hl0 : l0.length ≤ 140737488351232)
    (A1 : Option Addr) (c1 : Nat) (l1 : List Int) (hr1 : Kd.C (Kd.int .u8) W A1 l1.length l1) (hc1 : l1.length ≤ c1) (hb1 : ∀ x ∈ l1, 0 ≤ x ∧ x ≤ 255) (hl1 : l1.length ≤ 140737488351232)
    (a2 : Int) (w2 : (Lit.int .u8 a2).wf = true) (a3 : Int) (w3 : (Lit.int .u8 a3).wf = true) (hG : RootsIn W) :
    Calls Tryd.prog 19 #[.slice A0 l0.length c0, .slice A1 l1.length c1, .int .u8 a2, .int .u8 a3] W fun e w' => e = .returned (.bool true) ∧ Below W.heap.size W w' := by
  have KN := Aside0.mk (fun (X : World) (hX : Below W.heap.size W X) => known4 X (hG.below rfl hX))
  have h2 := wf_u8 w2
  have h3 := wf_u8 w3
  by_cases h200 : 200 < l0.length + l1.length
  · have g1 : (200 : Int) < (l0.length : Int) + (l1.length : Int) := by omega
    have g2 : decide ((200 : Int) < (l0.length : Int) + (l1.length : Int)) = true := decide_eq_true g1
    clear hr0 hr1 hb0 hb1 hG w2 w3
    go_enter Tryd.func19, Tryd.ntmps19
    go_wp2_with (go_at_call 34; ((with_reducible refine (KN.out _ (Below.refl _ _)).mono ?_); rintro e w1 ⟨rfl, hb1⟩); have HB1 := Aside0.mk hb1; clear hb1)
    go_ret
    exact ⟨rfl, HB1.out⟩
  have g1 : ¬ (200 : Int) < (l0.length : Int) + (l1.length : Int) := by omega
  have g2 : decide ((200 : Int) < (l0.length : Int) + (l1.length : Int)) = false := decide_eq_false g1
  have n01 : l0.length + l1.length ≤ 200 := by omega
  clear h200
  obtain ⟨kk, hkk⟩ : ∃ kk : Nat, (kk : Int) = 1 + a2 % 6 := ⟨(1 + a2 % 6).toNat, by omega⟩
  have hk1 : 1 ≤ kk := by omega
  have hk6 : kk ≤ 6 := by omega
  have e2 : a2 % 6 = (kk : Int) - 1 := by omega
  have e4 : (1 : Int) + ((kk : Int) - 1) = (kk : Int) := by omega
  obtain ⟨j, hj⟩ : ∃ j : Nat, (j : Int) = a3 % 32 := ⟨(a3 % 32).toNat, by omega⟩
  obtain ⟨q, hq⟩ : ∃ q : Nat, (q : Int) = a3 / 32 := ⟨(a3 / 32).toNat, by omega⟩
  have hj32 : j < 32 := by omega
  have hq8 : q < 8 := by omega
  have e5 : a3 % 32 = (j : Int) := by omega
  have e6 : a3 / 32 = (q : Int) := by omega
  have e7 : Int.tdiv a3 32 = (q : Int) := by rw [Int.tdiv_eq_ediv_of_nonneg h3.1]; exact e6
  have HR0 := Aside0.mk hr0
  have HR1 := Aside0.mk hr1
  have HB0 := Aside0.mk hb0
  have HB1 := Aside0.mk hb1
  have HG := Aside0.mk hG
  have hst0 := Kd.C_string (P := Tryd.prog) (c := c0) Tryd.underlying22 Tryd.underlying5 Tryd.underlying9 hr0
  have hst1 := Kd.C_string (P := Tryd.prog) (c := c1) Tryd.underlying22 Tryd.underlying5 Tryd.underlying9 hr1
  have hha : Calls Tryd.prog 37 #[.slice A0 l0.length c0, .slice A1 l1.length c1, .int .i64 (kk : Int)] W (HashPost (hashL l0 l1 kk) W) := hash_any A0 c0 l0 A1 c1 l1 kk hk1 (by omega) W hr0 hc0 hb0 (by omega) hr1 hc1 hb1 (by omega) hG
  have HHA := Aside0.mk hha
  clear hr0 hr1 hb0 hb1 hG w2 w3 hkk hha hj hq
  go_enter Tryd.func19, Tryd.ntmps19
  go_wp2_with (go_at_call 37; ((with_reducible refine (HHA.out).mono ?_)))
  rintro e w3 ⟨v3, rfl, ⟨B, d, rfl, hCa, hd3⟩, hb3⟩
  obtain ⟨ad, rfl, -⟩ := Kd.at_int hCa 0 (by decide) (by decide)
  have h32 : (hashL l0 l1 kk).length = 32 := hashL_len _ _ _
  have hHb : ∀ x ∈ hashL l0 l1 kk, 0 ≤ x ∧ x ≤ 255 := hashL_bytes _ _ _
  obtain ⟨H, hH⟩ : ∃ H, H = hashL l0 l1 kk := ⟨_, rfl⟩
  rw [← hH] at hCa h32 hHb
  have HH := Aside0.mk hH
  have HCA := Aside0.mk hCa
  have HB3 := Aside0.mk hb3
  have H32 := Aside0.mk h32
  have HHB := Aside0.mk hHb
  have HCL : Aside0 (Kd.C (Kd.int .u8) w3 (some ad) H.length H) := ⟨by rw [h32]; exact hCa⟩
  clear hCa hb3 hH h32 hHb hst0 hst1
  go_wp2_with (at_builtin; refine Kd.R_append_rows (Kd.int .u8) (w0 := w3) w3.heap.size rfl (.tmp 36) (.tmp 37) 22 5 (.int .u8 0) 1 rfl Tryd.underlying22 info5b rfl (by decide) (by omega) (.slice none 0 0) [] H _ _ _ (fun _ => True) (fun _ => False) rfl rfl (Kd.R_nil _ _ _ _ _) HCA.out (fun _ _ h => h) (fun _ h => h.elim) (fun _ _ => trivial) (Below.refl w3.heap.size w3) (Below.refl w3.heap.size w3).size (by have := H32.out; rw [List.length_nil]; omega) ?_)
  intro v4 w4 hR4 hb4 _ _
  have hR4 : Kd.R (Kd.int .u8) 5 w4 w3.heap.size (fun _ => True) v4 H := hR4
  obtain ⟨A4, c4, rfl⟩ := Kd.R_slice hR4
  have hC4 := (R_C hR4 H32.out)
  obtain ⟨ad4, rfl, -⟩ := Kd.at_int hC4.1 0 (by decide) (by decide)
  obtain ⟨g4, rfl⟩ := Kd.R_head hR4
  rw [H32.out] at hR4 ⊢
  obtain ⟨hcx, hcf⟩ := Kd.R_celln (0 : Int) hR4 (j : Int) (by omega) (by omega)
  rw [Int.toNat_natCast] at hcx hcf
  have hg4 : w3.heap.size ≤ g4 := ((Kd.R_bound hR4).1 g4 rfl).2.1
  obtain ⟨V, hV⟩ : ∃ V, V = bits .xor .u8 (rdOf (0 : Int) H (j : Int)) (2 ^ q % 256) := ⟨_, rfl⟩
  have hput := (Kd.R_putg hR4 (j : Int) V).1
  rw [Int.toNat_natCast] at hput
  obtain ⟨X0, hX0⟩ : ∃ X0, X0 = w4.setCell ⟨g4, j, none⟩ (.int .u8 V) := ⟨_, rfl⟩
  have hput2 : Kd.R (Kd.int .u8) 5 X0 w3.heap.size (fun _ => True) (.slice (some ⟨g4, 0, none⟩) 32 c4) (H.set j V) := by rw [hX0]; exact hput
  have hB30 : Below w3.heap.size w3 X0 := by rw [hX0]; exact hb4.setCell hg4 _
  have hrd : rdOf (0 : Int) H (j : Int) = H.getD j 0 := by simp [rdOf]
  have hjH : j < H.length := by rw [H32.out]; exact hj32
  have hHj := HHB.out (H.getD j 0) (by rw [List.getD_eq_getElem?_getD, List.getElem?_eq_getElem hjH]; exact List.getElem_mem _)
  obtain ⟨y, hy⟩ : ∃ y : Nat, H.getD j 0 = (y : Int) := ⟨(H.getD j 0).toNat, by omega⟩
  have hy256 : y < 256 := by omega
  have hpw : ((2 : Int) ^ q % 256) = ((2 ^ q : Nat) : Int) ∧ 2 ^ q < 256 ∧ 0 < 2 ^ q := by
    have hc : q = 0 ∨ q = 1 ∨ q = 2 ∨ q = 3 ∨ q = 4 ∨ q = 5 ∨ q = 6 ∨ q = 7 := by omega
    rcases hc with rfl | rfl | rfl | rfl | rfl | rfl | rfl | rfl <;> decide
  have hVn : V = ((y ^^^ 2 ^ q : Nat) : Int) := by rw [hV, hrd, hy, hpw.1, xor8 y _ hy256 hpw.2.1]
  have hV256 : y ^^^ 2 ^ q < 256 := Nat.xor_lt_two_pow (n := 8) hy256 hpw.2.1
  have hne : H ≠ H.set j V := by
    intro e
    have h1 : H.getD j 0 = (H.set j V).getD j 0 := by rw [← e]
    rw [List.getD_eq_getElem?_getD (l := H.set j V), List.getElem?_set, if_pos rfl, if_pos hjH, Option.getD_some, hy, hVn] at h1
    have h2 : y = y ^^^ 2 ^ q := by omega
    have h3 : (y ^^^ 2 ^ q) ^^^ y = 0 := by rw [← h2]; exact Nat.xor_self _
    rw [Nat.xor_comm y, Nat.xor_assoc, Nat.xor_self, Nat.xor_zero] at h3
    omega
  have hGb : ∀ x ∈ H.set j V, 0 ≤ x ∧ x ≤ 255 := by
    intro x hx
    rcases List.mem_or_eq_of_mem_set hx with h | h
    · exact HHB.out x h
    · rw [h, hVn]; omega
  have hGl : (H.set j V).length = 32 := by rw [List.length_set]; exact H32.out
  have hCG := R_C hput2 hGl
  have hWX := below_step HB3.out hB30
  have HRH : Aside0 (∀ X, Below X0.heap.size X0 X → Calls Tryd.prog 43 #[.slice A0 l0.length c0, .slice A1 l1.length c1, .int .i64 (kk : Int), .slice (some ad) 32 d] X fun e w' => e = .returned (.bool true) ∧ Below X.heap.size X w') := ⟨fun X hX => by
    have := right_any A0 c0 l0 A1 c1 l1 kk hk1 (by omega) (some ad) d H X (Kd.C_below HR0.out (below_step hWX hX)) hc0 HB0.out (by omega) (Kd.C_below HR1.out (below_step hWX hX)) hc1 HB1.out (by omega) (by rw [H32.out]; exact Kd.C_below HCA.out (below_step hB30 hX)) (by rw [H32.out]; exact hd3) HHB.out (HG.out.below rfl (below_step hWX hX))
    rw [← HH.out, H32.out] at this
    simpa using this⟩
  have HRG : Aside0 (∀ X, Below X0.heap.size X0 X → Calls Tryd.prog 43 #[.slice A0 l0.length c0, .slice A1 l1.length c1, .int .i64 (kk : Int), .slice (some ⟨g4, 0, none⟩) 32 c4] X fun e w' => e = .returned (.bool false) ∧ Below X.heap.size X w') := ⟨fun X hX => by
    have := right_any A0 c0 l0 A1 c1 l1 kk hk1 (by omega) (some ⟨g4, 0, none⟩) c4 (H.set j V) X (Kd.C_below HR0.out (below_step hWX hX)) hc0 HB0.out (by omega) (Kd.C_below HR1.out (below_step hWX hX)) hc1 HB1.out (by omega) (by rw [hGl]; exact Kd.C_below hCG.1 hX) (by rw [hGl]; exact hCG.2) hGb (HG.out.below rfl (below_step hWX hX))
    rw [← HH.out, hGl, decide_eq_false hne] at this
    exact this⟩
  have HS0 := Aside0.mk (fun (X : World) (hX : Below X0.heap.size X0 X) => Kd.C_string (P := Tryd.prog) (c := c0) Tryd.underlying22 Tryd.underlying5 Tryd.underlying9 (Kd.C_below HR0.out (below_step hWX hX)))
  have HS1 := Aside0.mk (fun (X : World) (hX : Below X0.heap.size X0 X) => Kd.C_string (P := Tryd.prog) (c := c1) Tryd.underlying22 Tryd.underlying5 Tryd.underlying9 (Kd.C_below HR1.out (below_step hWX hX)))
  have HX0 := Aside0.mk hX0
  have HV := Aside0.mk hV
  have HWX := Aside0.mk hWX
  clear hR4 hb4 hC4 hg4 hV hput hX0 hput2 hB30 hrd hjH hHj hy hpw hVn hV256 hne hGb hGl hCG hWX hy256 HCL
  go_wp2_with (go_at_call 34; (rw [← HV.out, ← HX0.out]; (with_reducible refine (KN.out _ HWX.out).mono ?_)))
  rintro e w5 ⟨rfl, hb5⟩
  have HB5 := Aside0.mk hb5
  clear hb5
  go_wp2_with (first
    | (go_at_call 43; ((with_reducible refine (HRH.out _ HB5.out).mono ?_); rintro e w6 ⟨rfl, hb6⟩); have HB6 := Aside0.mk (below_step HB5.out hb6); clear hb6)
    | (go_at_call 43; ((with_reducible refine (HRG.out _ HB6.out).mono ?_); rintro e w7 ⟨rfl, hb7⟩); have HB7 := Aside0.mk (below_step HB6.out hb7); have hs0 := HS0.out _ HB7.out; have hs1 := HS1.out _ HB7.out; clear hb7))
  go_ret
  exact ⟨rfl, below_step HWX.out HB7.out⟩
end Go.Proofs.YtfmdpkilgnccfaaDoor.Pure
