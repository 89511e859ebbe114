/- crc.Frame by hand: its front, its sum, its bytes. -/
import Derived.Test.YtmepclalglmleaaC2
import Derived.Test.YtmepclalglmleaaN
import Derived.Outline
namespace Go.Proofs.Ytmepclalglmleaa.E
open Go.RowKit Go.Proofs.YtmepclalglmleaaW.PrintWords Go.Proofs.YtmepclalglmleaaW.PrintLast Go.Proofs.YtmepclalglmleaaW.PrintMore Go.Proofs.Ytmepclalglmleaa.Pr
set_option linter.unusedVariables false
set_option linter.unusedSimpArgs false
theorem rows_new (W : World) (vs : List (Option Addr × Nat × List Int)) (h : ∀ v ∈ vs, Kd.C (Kd.int .u8) W v.1 v.2.2.length v.2.2 ∧ v.2.2.length ≤ v.2.1) (hl : vs.length ≤ 100) :
    Kd.C (Kd.slice 5 (Kd.int .u8)) (W.alloc (.cells (vs.map fun v => Value.slice v.1 v.2.2.length v.2.1).toArray 22)) (some ⟨W.heap.size, 0, none⟩) (vs.map (·.2.2)).length (vs.map (·.2.2)) := by
  refine ⟨rfl, by simp; omega, fun _ => ⟨_, rfl, fun j p hp => ?_⟩⟩
  rw [List.getElem?_map] at hp
  obtain ⟨v, hv, rfl⟩ := Option.map_eq_some_iff.1 hp
  have hm := h v (List.mem_of_getElem? hv)
  refine ⟨[.slice v.1 v.2.2.length v.2.1], rfl, ⟨v.1, v.2.1, rfl, hm.2, Kd.C_alloc hm.1 _⟩, ?_⟩
  intro i u hu
  match i, hu with
  | 0, hu =>
    simp at hu
    subst hu
    have e : (⟨W.heap.size, 0, none⟩ : Addr).add (j * 1 + 0) = ⟨W.heap.size, j, none⟩ := by rw [Nat.mul_one, Nat.add_zero]; exact add_plain _ _
    rw [show (Kd.slice 5 (Kd.int IntKind.u8)).sz = 1 from rfl, e, blk_cell (heap_alloc_new W _) j]
    simp [hv]
def frontL (n : Nat) (l : List Int) : List Int := beN l.length 4 ++ beN n 8
def frameL (n : Nat) (l : List Int) : List Int := frontL n l ++ beN (crcN (frontL n l ++ l)) 4 ++ l
theorem beN_length (n : Nat) : ∀ k, (beN n k).length = k
  | 0 => rfl
  | k + 1 => by simp [beN, beN_length n k]
theorem beN_BL (n : Nat) : ∀ k, ∀ x ∈ beN n k, 0 ≤ x ∧ x ≤ 255
  | 0, x, h => by simp [beN] at h
  | k + 1, x, h => by
    simp only [beN, List.mem_cons] at h
    rcases h with rfl | h
    · omega
    · exact beN_BL n k x h
theorem crcN_lt {l : List Int} (h : ∀ x ∈ l, 0 ≤ x ∧ x ≤ 255) : crcN l < 4294967296 := lt32 (crun_lt (by decide) h) (by decide)
theorem R_form4 {w : World} {b : Nat} {ok : Nat → Prop} {v : Value} {l : List Int} {n : Nat} (h : Kd.R (Kd.int .u8) 5 w b ok v l) (hn : l.length = n) : ∃ A c, v = .slice A n c := by
  obtain ⟨inner, ho⟩ := Kd.R_own h
  rw [hn] at ho
  exact own_slice ho
theorem R_C {w : World} {b : Nat} {ok : Nat → Prop} {A : Option Addr} {m c : Nat} {l : List Int} {n : Nat} (h : Kd.R (Kd.int .u8) 5 w b ok (.slice A m c) l) (hn : l.length = n) : Kd.C (Kd.int .u8) w A n l ∧ n ≤ c := by
  have := Kd.R_reads' h
  subst hn
  exact ⟨this.2.2, this.1 ▸ this.2.1⟩
def crc_Frame.f (a0 : Int) (l1 : List Int) : Option (List Int × Int) :=
  if l1.length > 65536 then some ([], 3) else if (0 ≤ a0 ∧ a0 < 18446744073709551616) ∧ (∀ x ∈ l1, 0 ≤ x ∧ x ≤ 255) then some (frameL a0.toNat l1, 0) else none
set_option maxHeartbeats 4000000 in
set_option maxRecDepth 100000 in
theorem frame_any (n : Nat) (A1 : Option Addr) (c1 : Nat) (l1 : List Int) (w : World) (hr1 : Kd.C (Kd.int .u8) w A1 l1.length l1) (hc1 : l1.length ≤ c1) (hl : l1.length ≤ 65536) (hn : n < 18446744073709551616) (hall : ∀ x ∈ l1, 0 ≤ x ∧ x ≤ 255) :
    Calls Try.prog 25 #[.int .u64 (n : Int), .slice A1 l1.length c1] w fun e w' => ∃ v0_ : Value, e = .returned (.tuple #[v0_, .int .u16 0]) ∧ Kd.R (Kd.int .u8) 5 w' w.heap.size (fun _ => True) v0_ (frameL n l1) ∧ Below w.heap.size w w' := by
  have HR1 := Aside0.mk hr1
  have HALL := Aside0.mk hall
  have HN := Aside0.mk hn
  clear hr1 hall hn
  obtain ⟨L, hL⟩ : ∃ L, L = l1.length := ⟨_, rfl⟩
  have HL := Aside0.mk hL
  rw [← hL] at hl hc1 HR1 ⊢
  clear hL
  go_enter Try.func25, Try.ntmps25
  go_wp2_with (go_at_call 40; refine (num_Put.calls 9 (L : Int) 4 _ _ (put4 L)).mono ?_)
  rintro e w1 ⟨v1, rfl, hv1, hb1⟩
  obtain ⟨Av, cv, rfl⟩ := R_form4 hv1 (beN_length _ _)
  have HV1 := Aside0.mk hv1
  have HB1 := Aside0.mk hb1
  clear hv1 hb1
  go_wp2_with (go_at_call 40; refine (num_Put.calls 9 (n : Int) 8 _ _ (put8 n)).mono ?_)
  rintro e w2 ⟨v2, rfl, hv2, hb2⟩
  obtain ⟨Aw, cw, rfl⟩ := R_form4 hv2 (beN_length _ _)
  have HV2 := Aside0.mk hv2
  have HB2 := Aside0.mk (HB1.out.trans (hb2.mono HB1.out.size))
  have p1 := Aside0.mk (Kd.C_below (R_C HV1.out (beN_length _ _)).1 hb2)
  have p2 := Aside0.mk (R_C HV2.out (beN_length _ _)).1
  have q1 := (R_C HV1.out (beN_length _ _)).2
  have q2 := (R_C HV2.out (beN_length _ _)).2
  have hrows := rows_new w2 [(Av, cv, beN L 4), (Aw, cw, beN n 8)] (by
    intro v hv
    simp only [List.mem_cons, List.mem_nil_iff, or_false] at hv
    rcases hv with rfl | rfl
    · simp only [beN_length]; exact ⟨p1.out, q1⟩
    · simp only [beN_length]; exact ⟨p2.out, q2⟩) (by simp)
  simp only [List.map_cons, List.map_nil, beN_length, List.length_cons, List.length_nil, Nat.zero_add, Nat.reduceAdd] at hrows
  have HROWS := Aside0.mk hrows
  have hf1 : slices_Concat_byte_byte.f [beN L 4, beN n 8] = some (beN L 4 ++ beN n 8) := by
    unfold slices_Concat_byte_byte.f
    rw [if_pos]
    · simp
    · simp [beN_length]
  have HF1 := Aside0.mk hf1
  clear hv2 hb2 hrows hf1
  go_wp2_with (go_at_call 39; refine (slices_Concat_byte_byte.calls _ 2 [beN L 4, beN n 8] _ _ HROWS.out (Nat.le_refl _) HF1.out).mono ?_)
  rintro e w3 ⟨v3, rfl, hv3, hb3⟩
  have hfl : (beN L 4 ++ beN n 8).length = 12 := by simp [beN_length]
  obtain ⟨Af, cf, rfl⟩ := R_form4 hv3 hfl
  have HB3 := Aside0.mk ((HB2.out.alloc HB2.out.size _).trans (hb3.mono (by have := HB2.out.size; simp; omega)))
  have HV3 := Aside0.mk hv3
  obtain ⟨F, hF⟩ : ∃ F, F = beN L 4 ++ beN n 8 := ⟨_, rfl⟩
  rw [← hF] at HV3 hfl
  have hFB : ∀ x ∈ F, 0 ≤ x ∧ x ≤ 255 := by
    rw [hF]; intro x hx
    rcases List.mem_append.1 hx with h | h
    · exact beN_BL _ _ x h
    · exact beN_BL _ _ x h
  have HF := Aside0.mk hF
  have HFB := Aside0.mk hFB
  have pf := Aside0.mk (R_C HV3.out hfl).1
  have qf := (R_C HV3.out hfl).2
  have pl := Aside0.mk (Kd.C_below HR1.out HB3.out)
  have hrows2 := rows_new w3 [(Af, cf, F), (A1, c1, l1)] (by
    intro v hv
    simp only [List.mem_cons, List.mem_nil_iff, or_false] at hv
    rcases hv with rfl | rfl
    · simp only [hfl]; exact ⟨pf.out, qf⟩
    · simp only [← HL.out]; exact ⟨pl.out, hc1⟩) (by simp)
  simp only [List.map_cons, List.map_nil, hfl, ← HL.out, List.length_cons, List.length_nil, Nat.zero_add, Nat.reduceAdd] at hrows2
  have HROWS2 := Aside0.mk hrows2
  have hsum : crc_sum.f [F, l1] = some ((crcN (F ++ l1) : Nat) : Int) := by
    unfold crc_sum.f
    rw [if_pos]
    · simp
    · intro r hr
      simp only [List.mem_cons, List.mem_nil_iff, or_false] at hr
      rcases hr with rfl | rfl
      · exact HFB.out
      · exact HALL.out
  have HSUM := Aside0.mk hsum
  have HFL := Aside0.mk hfl
  clear hb3 hv3 hrows2 hsum hfl hF hFB
  go_wp2_with (go_at_call 41; refine (crc_sum.calls _ 2 [F, l1] _ _ HROWS2.out (Nat.le_refl _) HSUM.out).mono ?_)
  rintro e w4 ⟨rfl, hb4⟩
  have hw34 : Below w3.heap.size w3 w4 := ((Below.refl w3.heap.size w3).alloc (Nat.le_refl _) _).trans (hb4.mono (by simp))
  have HV4 := Aside0.mk (Kd.R_below HV3.out hw34)
  have HB4 := Aside0.mk (HB3.out.trans (hw34.mono HB3.out.size))
  have hcl : crcN (F ++ l1) < 4294967296 := crcN_lt (by
    intro x hx
    rcases List.mem_append.1 hx with h | h
    · exact HFB.out x h
    · exact HALL.out x h)
  obtain ⟨cs, hcs⟩ : ∃ cs, cs = crcN (F ++ l1) := ⟨_, rfl⟩
  rw [← hcs] at hcl ⊢
  have HCS := Aside0.mk hcs
  clear hb4 hw34 hcs
  go_wp2_with (go_at_call 40; refine (num_Put.calls 9 (cs : Int) 4 _ _ (put4 cs)).mono ?_)
  rintro e w5 ⟨v5, rfl, hv5, hb5⟩
  obtain ⟨As, cs5, rfl⟩ := R_form4 hv5 (beN_length _ _)
  have HV5 := Aside0.mk hv5
  have HB5 := Aside0.mk (HB4.out.trans (hb5.mono HB4.out.size))
  have HV4' := Aside0.mk (Kd.R_below HV4.out hb5)
  have pf' := Aside0.mk (R_C HV4'.out HFL.out).1
  have pl' := Aside0.mk (Kd.C_below HR1.out HB5.out)
  have ps' := Aside0.mk (R_C HV5.out (beN_length _ _)).1
  have qs' := (R_C HV5.out (beN_length _ _)).2
  have hrows3 := rows_new w5 [(Af, cf, F), (As, cs5, beN cs 4), (A1, c1, l1)] (by
    intro v hv
    simp only [List.mem_cons, List.mem_nil_iff, or_false] at hv
    rcases hv with rfl | rfl | rfl
    · simp only [HFL.out]; exact ⟨pf'.out, qf⟩
    · simp only [beN_length]; exact ⟨ps'.out, qs'⟩
    · simp only [← HL.out]; exact ⟨pl'.out, hc1⟩) (by simp)
  simp only [List.map_cons, List.map_nil, HFL.out, beN_length, ← HL.out, List.length_cons, List.length_nil, Nat.zero_add, Nat.reduceAdd] at hrows3
  have HROWS3 := Aside0.mk hrows3
  have hcat : slices_Concat_byte_byte.f [F, beN cs 4, l1] = some (F ++ beN cs 4 ++ l1) := by
    unfold slices_Concat_byte_byte.f
    rw [if_pos]
    · simp
    · have := HFL.out; have := HL.out; simp [beN_length]; omega
  have HCAT := Aside0.mk hcat
  clear hv5 hb5 hrows3 hcat
  go_wp2_with (go_at_call 39; refine (slices_Concat_byte_byte.calls _ 3 [F, beN cs 4, l1] _ _ HROWS3.out (Nat.le_refl _) HCAT.out).mono ?_)
  rintro e w6 ⟨v6, rfl, hv6, hb6⟩
  have HV6 := Aside0.mk hv6
  have HB6 := Aside0.mk ((HB5.out.alloc HB5.out.size _).trans (hb6.mono (by have := HB5.out.size; simp; omega)))
  have hres : F ++ beN cs 4 ++ l1 = frameL n l1 := by unfold frameL frontL; rw [HCS.out, HF.out, HL.out]
  have HRES := Aside0.mk hres
  have hlow : w.heap.size ≤ (w5.alloc (.cells #[.slice Af 12 cf, .slice As 4 cs5, .slice A1 L c1] 22)).heap.size := by have := HB5.out.size; simp; omega
  have HV7 := Aside0.mk (Kd.R_lower HV6.out hlow)
  clear hv6 hb6 hres hlow
  obtain ⟨N, hN⟩ : ∃ N, (F ++ beN cs 4 ++ l1).length = N := ⟨_, rfl⟩
  obtain ⟨Ar, cr, rfl⟩ := R_form4 HV7.out hN
  have hv9 := HV7.out
  rw [HRES.out] at hv9
  have HV9 := Aside0.mk hv9
  clear hv9 hN
  go_wp2
  go_ret2
  exact ⟨_, rfl, HV9.out, HB6.out⟩
theorem crc_Frame.calls (a0 : Int) (A1 : Option Addr) (c1 : Nat) (l1 : List Int) (r1 : List Int) (r2 : Int) (w : World) (hr1 : Kd.C (Kd.int .u8) w A1 l1.length l1) (hc1 : l1.length ≤ c1) (h : crc_Frame.f a0 l1 = some (r1, r2)) :
    Calls Try.prog 25 #[.int .u64 a0, .slice A1 l1.length c1] w fun e w' => ∃ v0_ : Value, e = .returned (.tuple #[v0_, .int .u16 r2]) ∧ Kd.R (Kd.int .u8) 5 w' w.heap.size (fun _ => True) v0_ r1 ∧ Below w.heap.size w w' := by
  unfold crc_Frame.f at h
  split at h
  · rename_i hbig
    simp only [Option.some.injEq, Prod.mk.injEq] at h
    obtain ⟨rfl, rfl⟩ := h
    go_enter Try.func25, Try.ntmps25
    go_wp2
    go_ret2
    exact ⟨_, rfl, Kd.R_nil _ _ _ _ _, Below.refl _ _⟩
  · rename_i hbig
    split at h
    · rename_i h2
      simp only [Option.some.injEq, Prod.mk.injEq] at h
      obtain ⟨rfl, rfl⟩ := h
      have := frame_any a0.toNat A1 c1 l1 w hr1 hc1 (by omega) (by omega) h2.2
      rwa [Int.toNat_of_nonneg h2.1.1] at this
    · cases h
end Go.Proofs.Ytmepclalglmleaa.E
