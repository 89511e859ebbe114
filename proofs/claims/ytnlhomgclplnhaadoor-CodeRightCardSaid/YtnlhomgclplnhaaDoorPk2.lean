import Derived.Test.YtnlhomgclplnhaaDoorPk1
/- May a change be? -/
namespace Go.Proofs.YtnlhomgclplnhaaDoor.E
open Go.RowKit Go.Proofs.YtnlhomgclplnhaaDoorW.PrintWords Go.Proofs.YtnlhomgclplnhaaDoorW.PrintLast Go.Proofs.YtnlhomgclplnhaaDoorW.PrintMore Go.Proofs.YtnlhomgclplnhaaDoor.Pr
set_option linter.unusedVariables false
set_option linter.unusedSimpArgs false
attribute [local go_sem] opVal opUpon
/-- Is a text an ID? -/
def idL (s : ByteArray) : Bool := decide (s.size = 64) && (bytesOf s).all (fun c => decide (0 ≤ hv c))
theorem id_some (s : ByteArray) (hs : s.size ≤ 140737488351232) : hexa_ID.f s = some (idL s) := by
  unfold hexa_ID.f hexa_Bytes.f idL
  rw [if_pos hs, Option.bind_some]
  by_cases h : (bytesOf s).all (fun c => decide (0 ≤ hv c)) = true ∧ s.size % 2 = 0
  · rw [if_pos h]
    simp only [if_true]
    rw [pairs_length, bytesOf_length, h.1, Bool.and_true]
    congr 1
    by_cases e : s.size = 64
    · rw [e]; rfl
    · rw [decide_eq_false e, beq_eq_false_iff_ne]; omega
  · rw [if_neg h]
    simp only [Bool.false_eq_true, if_false]
    congr 1
    symm
    rw [Bool.and_eq_false_iff]
    by_cases e : s.size = 64
    · refine .inr ?_
      cases hx : (bytesOf s).all (fun c => decide (0 ≤ hv c)) with
      | false => rfl
      | true => exact absurd ⟨hx, by rw [e]⟩ h
    · exact .inl (decide_eq_false e)
def BoolB (b : Bool) (w : World) (e : Ending) (w' : World) : Prop := e = .returned (.bool b) ∧ Below w.heap.size w w'
theorem ne_empty {s : ByteArray} (h : s ≠ ⟨#[]⟩) : s.toList.isEmpty = false ∧ (s.toList == []) = false := by
  have h1 : s.toList ≠ [] := by
    intro e
    apply h
    have h2 : s.data.toList = [] := by rw [← e, ByteArray.toList_eq]
    cases s with
    | mk d => 
      congr 1
      exact Array.ext' (by simpa using h2)
  refine ⟨?_, ?_⟩
  · cases hl : s.toList with
    | nil => exact absurd hl h1
    | cons _ _ => rfl
  · rw [beq_eq_false_iff_ne]; exact h1
theorem rid_any (s : ByteArray) (w : World) (hs : s.size ≤ 140737488351232) :
    Calls Tryd.prog 70 #[.string s] w (BoolB (decide (s = ⟨#[]⟩) || idL s) w) := by
  have HI := Aside0.mk (fun W : World => hexa_ID.calls s (idL s) W (id_some s hs))
  by_cases h0 : s = ⟨#[]⟩
  · subst h0
    go_enter Tryd.func70, Tryd.ntmps70
    go_wp2
    go_ret
    exact ⟨by simp, Below.refl _ _⟩
  · obtain ⟨h1, h2⟩ := ne_empty h0
    have H0 := Aside0.mk h0
    clear h0 hs
    go_enter Tryd.func70, Tryd.ntmps70
    go_wp2_with (go_at_call 33; ((with_reducible refine (HI.out _).mono ?_)))
    rintro e w1 ⟨rfl, hb⟩
    have HB := Aside0.mk hb
    clear hb
    go_wp2
    go_ret
    exact ⟨by simp [H0.out], HB.out⟩
theorem rsize_any (A : Option Addr) (n c k : Nat) (w : World) (hn : n ≤ 140737488351232) (hk : k ≤ 1000) :
    Calls Tryd.prog 71 #[.slice A n c, .int .i64 (k : Int)] w fun e w' => e = .returned (.bool (decide (n = 0) || decide (n = k))) ∧ w = w' := by
  by_cases h0 : n = 0
  · subst h0
    go_enter Tryd.func71, Tryd.ntmps71
    go_wp2
    go_ret
    exact ⟨by simp, rfl⟩
  · have h1 : ((n : Int) == 0) = false := by rw [beq_eq_false_iff_ne]; omega
    have h2 : ((n : Int) == (k : Int)) = decide (n = k) := by
      by_cases e : n = k
      · rw [e, decide_eq_true rfl]; exact beq_self_eq_true _
      · rw [decide_eq_false e, beq_eq_false_iff_ne]; omega
    have H := Aside0.mk (And.intro h0 h2)
    clear h0 h2
    go_enter Tryd.func71, Tryd.ntmps71
    go_wp2
    go_ret
    exact ⟨by rw [decide_eq_false H.out.1, Bool.false_or, ← H.out.2]; rfl, rfl⟩
/-- May a change be? As one Bool. -/
def rightOpL (kind : Int) (s1 s2 s3 : ByteArray) (n4 n5 : Nat) (s6 : ByteArray) : Bool :=
  decide (1 ≤ kind) && (decide (kind ≤ 8) && ((decide (s1 = ⟨#[]⟩) || idL s1) && ((decide (s2 = ⟨#[]⟩) || idL s2) && ((decide (s3 = ⟨#[]⟩) || nameL (strL s3)) && ((decide (n4 = 0) || decide (n4 = 16)) && ((decide (n5 = 0) || decide (n5 = 32)) && noteL (strL s6)))))))
set_option maxHeartbeats 16000000 in
set_option maxRecDepth 100000 in
theorem rightop_any (kind : Int) (s1 s2 s3 : ByteArray) (A4 : Option Addr) (n4 c4 : Nat) (A5 : Option Addr) (n5 c5 : Nat) (s6 : ByteArray) (W : World) (hs1 : s1.size ≤ 140737488351232) (hs2 : s2.size ≤ 140737488351232) (hs3 : s3.size ≤ 140737488351232) (hs6 : s6.size ≤ 140737488351232)
    (hn4 : n4 ≤ 140737488351232) (hn5 : n5 ≤ 140737488351232) (hG : RootsIn W) :
    Calls Tryd.prog 42 #[.agg #[.int .i64 kind, .string s1, .string s2, .string s3, .slice A4 n4 c4, .slice A5 n5 c5, .string s6]] W (BoolB (rightOpL kind s1 s2 s3 n4 n5 s6) W) := by
  have hW0 := below_alloc (Below.refl W.heap.size W) (.cells #[.int .i64 kind, .string s1, .string s2, .string s3, .slice A4 n4 c4, .slice A5 n5 c5, .string s6] 45)
  have hb0 := heap_alloc_new W (.cells #[.int .i64 kind, .string s1, .string s2, .string s3, .slice A4 n4 c4, .slice A5 n5 c5, .string s6] 45)
  have HBX := Aside0.mk (fun (X : World) (hX : Below (W.alloc (.cells #[.int .i64 kind, .string s1, .string s2, .string s3, .slice A4 n4 c4, .slice A5 n5 c5, .string s6] 45)).heap.size (W.alloc (.cells #[.int .i64 kind, .string s1, .string s2, .string s3, .slice A4 n4 c4, .slice A5 n5 c5, .string s6] 45)) X) => (hX.block W.heap.size (Array.getElem?_eq_some_iff.1 hb0).1).trans hb0)
  obtain ⟨b3, hb3⟩ : ∃ b, b = (decide (s1 = ⟨#[]⟩) || idL s1) := ⟨_, rfl⟩
  obtain ⟨b4, hb4⟩ : ∃ b, b = (decide (s2 = ⟨#[]⟩) || idL s2) := ⟨_, rfl⟩
  obtain ⟨b5, hb5⟩ : ∃ b, b = nameL (strL s3) := ⟨_, rfl⟩
  obtain ⟨b6, hb6⟩ : ∃ b, b = (decide (n4 = 0) || decide (n4 = 16)) := ⟨_, rfl⟩
  obtain ⟨b7, hb7⟩ : ∃ b, b = (decide (n5 = 0) || decide (n5 = 32)) := ⟨_, rfl⟩
  obtain ⟨b8, hb8⟩ : ∃ b, b = noteL (strL s6) := ⟨_, rfl⟩
  have hR : rightOpL kind s1 s2 s3 n4 n5 s6 = (decide (1 ≤ kind) && (decide (kind ≤ 8) && (b3 && (b4 && ((decide (s3 = ⟨#[]⟩) || b5) && (b6 && (b7 && b8))))))) := by rw [hb3, hb4, hb5, hb6, hb7, hb8]; rfl
  have H3 := Aside0.mk (fun X : World => rid_any s1 X hs1)
  have H4 := Aside0.mk (fun X : World => rid_any s2 X hs2)
  have H5 := Aside0.mk (fun (X : World) (hX : Below W.heap.size W X) => text_Name.calls s3 (nameL (strL s3)) X (by rw [text_Name.f, if_pos hs3]) (hG.below rfl hX))
  have H6 : Aside0 (∀ X : World, Calls Tryd.prog 71 #[.slice A4 n4 c4, .int .i64 16] X fun e w' => e = .returned (.bool (decide (n4 = 0) || decide (n4 = 16))) ∧ X = w') := ⟨fun X => rsize_any A4 n4 c4 16 X hn4 (by decide)⟩
  have H7 : Aside0 (∀ X : World, Calls Tryd.prog 71 #[.slice A5 n5 c5, .int .i64 32] X fun e w' => e = .returned (.bool (decide (n5 = 0) || decide (n5 = 32))) ∧ X = w') := ⟨fun X => rsize_any A5 n5 c5 32 X hn5 (by decide)⟩
  have H8 := Aside0.mk (fun (X : World) (hX : Below W.heap.size W X) => text_Note.calls s6 (noteL (strL s6)) X (by rw [text_Note.f, if_pos hs6]) (hG.below rfl hX))
  rw [← hb3] at H3
  rw [← hb4] at H4
  rw [← hb5] at H5
  rw [← hb6] at H6
  rw [← hb7] at H7
  rw [← hb8] at H8
  have HR := Aside0.mk hR
  have HW0 := Aside0.mk hW0
  clear hW0 hb0 hb3 hb4 hb5 hb6 hb7 hb8 hR hs1 hs2 hs3 hs6 hn4 hn5 hG
  unfold BoolB
  by_cases k1 : 1 ≤ kind
  case neg =>
    have d1 : decide (1 ≤ kind) = false := decide_eq_false k1
    rw [d1] at HR
    go_enter Tryd.func42, Tryd.ntmps42
    go_wp2
    go_ret
    exact ⟨by rw [HR.out]; rfl, HW0.out⟩
  have d1 : decide (1 ≤ kind) = true := decide_eq_true k1
  rw [d1] at HR
  by_cases k2 : kind ≤ 8
  case neg =>
    have d2 : decide (kind ≤ 8) = false := decide_eq_false k2
    rw [d2] at HR
    go_enter Tryd.func42, Tryd.ntmps42
    go_wp2
    go_ret
    exact ⟨by rw [HR.out]; rfl, HW0.out⟩
  have d2 : decide (kind ≤ 8) = true := decide_eq_true k2
  rw [d2] at HR
  cases b3
  case false =>
    go_enter Tryd.func42, Tryd.ntmps42
    go_wp2_with (go_at_call 70; ((with_reducible refine (H3.out _).mono ?_)))
    rintro e w1 ⟨rfl, hb⟩
    have HZ1 := Aside0.mk (hb)
    clear hb
    have x1_0 := blk_cell (HBX.out w1 HZ1.out) 0
    have x1_1 := blk_cell (HBX.out w1 HZ1.out) 1
    have x1_2 := blk_cell (HBX.out w1 HZ1.out) 2
    have x1_3 := blk_cell (HBX.out w1 HZ1.out) 3
    have x1_4 := blk_cell (HBX.out w1 HZ1.out) 4
    have x1_5 := blk_cell (HBX.out w1 HZ1.out) 5
    have x1_6 := blk_cell (HBX.out w1 HZ1.out) 6
    simp only [List.getElem?_toArray, List.getElem?_cons_zero, List.getElem?_cons_succ] at x1_0 x1_1 x1_2 x1_3 x1_4 x1_5 x1_6
    go_wp2
    go_ret
    exact ⟨by rw [HR.out]; rfl, below_step HW0.out HZ1.out⟩
  cases b4
  case false =>
    go_enter Tryd.func42, Tryd.ntmps42
    go_wp2_with (go_at_call 70; ((with_reducible refine (H3.out _).mono ?_)))
    rintro e w1 ⟨rfl, hb⟩
    have HZ1 := Aside0.mk (hb)
    clear hb
    have x1_0 := blk_cell (HBX.out w1 HZ1.out) 0
    have x1_1 := blk_cell (HBX.out w1 HZ1.out) 1
    have x1_2 := blk_cell (HBX.out w1 HZ1.out) 2
    have x1_3 := blk_cell (HBX.out w1 HZ1.out) 3
    have x1_4 := blk_cell (HBX.out w1 HZ1.out) 4
    have x1_5 := blk_cell (HBX.out w1 HZ1.out) 5
    have x1_6 := blk_cell (HBX.out w1 HZ1.out) 6
    simp only [List.getElem?_toArray, List.getElem?_cons_zero, List.getElem?_cons_succ] at x1_0 x1_1 x1_2 x1_3 x1_4 x1_5 x1_6
    go_wp2_with (go_at_call 70; ((with_reducible refine (H4.out _).mono ?_)))
    rintro e w2 ⟨rfl, hb⟩
    have HZ2 := Aside0.mk (below_step HZ1.out hb)
    clear hb
    clear x1_0 x1_1 x1_2 x1_3 x1_4 x1_5 x1_6
    have x2_0 := blk_cell (HBX.out w2 HZ2.out) 0
    have x2_1 := blk_cell (HBX.out w2 HZ2.out) 1
    have x2_2 := blk_cell (HBX.out w2 HZ2.out) 2
    have x2_3 := blk_cell (HBX.out w2 HZ2.out) 3
    have x2_4 := blk_cell (HBX.out w2 HZ2.out) 4
    have x2_5 := blk_cell (HBX.out w2 HZ2.out) 5
    have x2_6 := blk_cell (HBX.out w2 HZ2.out) 6
    simp only [List.getElem?_toArray, List.getElem?_cons_zero, List.getElem?_cons_succ] at x2_0 x2_1 x2_2 x2_3 x2_4 x2_5 x2_6
    go_wp2
    go_ret
    exact ⟨by rw [HR.out]; rfl, below_step HW0.out HZ2.out⟩
  by_cases h5 : s3 = ⟨#[]⟩
  case pos =>
    have HE : Aside0 (decide (s3 = ⟨#[]⟩) = true) := ⟨decide_eq_true h5⟩
    subst h5
    cases b6
    case false =>
      go_enter Tryd.func42, Tryd.ntmps42
      go_wp2_with (go_at_call 70; ((with_reducible refine (H3.out _).mono ?_)))
      rintro e w1 ⟨rfl, hb⟩
      have HZ1 := Aside0.mk (hb)
      clear hb
      have x1_0 := blk_cell (HBX.out w1 HZ1.out) 0
      have x1_1 := blk_cell (HBX.out w1 HZ1.out) 1
      have x1_2 := blk_cell (HBX.out w1 HZ1.out) 2
      have x1_3 := blk_cell (HBX.out w1 HZ1.out) 3
      have x1_4 := blk_cell (HBX.out w1 HZ1.out) 4
      have x1_5 := blk_cell (HBX.out w1 HZ1.out) 5
      have x1_6 := blk_cell (HBX.out w1 HZ1.out) 6
      simp only [List.getElem?_toArray, List.getElem?_cons_zero, List.getElem?_cons_succ] at x1_0 x1_1 x1_2 x1_3 x1_4 x1_5 x1_6
      go_wp2_with (go_at_call 70; ((with_reducible refine (H4.out _).mono ?_)))
      rintro e w2 ⟨rfl, hb⟩
      have HZ2 := Aside0.mk (below_step HZ1.out hb)
      clear hb
      clear x1_0 x1_1 x1_2 x1_3 x1_4 x1_5 x1_6
      have x2_0 := blk_cell (HBX.out w2 HZ2.out) 0
      have x2_1 := blk_cell (HBX.out w2 HZ2.out) 1
      have x2_2 := blk_cell (HBX.out w2 HZ2.out) 2
      have x2_3 := blk_cell (HBX.out w2 HZ2.out) 3
      have x2_4 := blk_cell (HBX.out w2 HZ2.out) 4
      have x2_5 := blk_cell (HBX.out w2 HZ2.out) 5
      have x2_6 := blk_cell (HBX.out w2 HZ2.out) 6
      simp only [List.getElem?_toArray, List.getElem?_cons_zero, List.getElem?_cons_succ] at x2_0 x2_1 x2_2 x2_3 x2_4 x2_5 x2_6
      go_wp2_with (go_at_call 71; ((with_reducible refine (H6.out _).mono ?_)))
      rintro e w ⟨rfl, rfl⟩
      go_wp2
      go_ret
      exact ⟨by rw [HR.out, HE.out]; rfl, below_step HW0.out HZ2.out⟩
    cases b7
    case false =>
      go_enter Tryd.func42, Tryd.ntmps42
      go_wp2_with (go_at_call 70; ((with_reducible refine (H3.out _).mono ?_)))
      rintro e w1 ⟨rfl, hb⟩
      have HZ1 := Aside0.mk (hb)
      clear hb
      have x1_0 := blk_cell (HBX.out w1 HZ1.out) 0
      have x1_1 := blk_cell (HBX.out w1 HZ1.out) 1
      have x1_2 := blk_cell (HBX.out w1 HZ1.out) 2
      have x1_3 := blk_cell (HBX.out w1 HZ1.out) 3
      have x1_4 := blk_cell (HBX.out w1 HZ1.out) 4
      have x1_5 := blk_cell (HBX.out w1 HZ1.out) 5
      have x1_6 := blk_cell (HBX.out w1 HZ1.out) 6
      simp only [List.getElem?_toArray, List.getElem?_cons_zero, List.getElem?_cons_succ] at x1_0 x1_1 x1_2 x1_3 x1_4 x1_5 x1_6
      go_wp2_with (go_at_call 70; ((with_reducible refine (H4.out _).mono ?_)))
      rintro e w2 ⟨rfl, hb⟩
      have HZ2 := Aside0.mk (below_step HZ1.out hb)
      clear hb
      clear x1_0 x1_1 x1_2 x1_3 x1_4 x1_5 x1_6
      have x2_0 := blk_cell (HBX.out w2 HZ2.out) 0
      have x2_1 := blk_cell (HBX.out w2 HZ2.out) 1
      have x2_2 := blk_cell (HBX.out w2 HZ2.out) 2
      have x2_3 := blk_cell (HBX.out w2 HZ2.out) 3
      have x2_4 := blk_cell (HBX.out w2 HZ2.out) 4
      have x2_5 := blk_cell (HBX.out w2 HZ2.out) 5
      have x2_6 := blk_cell (HBX.out w2 HZ2.out) 6
      simp only [List.getElem?_toArray, List.getElem?_cons_zero, List.getElem?_cons_succ] at x2_0 x2_1 x2_2 x2_3 x2_4 x2_5 x2_6
      go_wp2_with (go_at_call 71; ((with_reducible refine (H6.out _).mono ?_)))
      rintro e w ⟨rfl, rfl⟩
      go_wp2_with (go_at_call 71; ((with_reducible refine (H7.out _).mono ?_)))
      rintro e w ⟨rfl, rfl⟩
      go_wp2
      go_ret
      exact ⟨by rw [HR.out, HE.out]; rfl, below_step HW0.out HZ2.out⟩
    go_enter Tryd.func42, Tryd.ntmps42
    go_wp2_with (go_at_call 70; ((with_reducible refine (H3.out _).mono ?_)))
    rintro e w1 ⟨rfl, hb⟩
    have HZ1 := Aside0.mk (hb)
    clear hb
    have x1_0 := blk_cell (HBX.out w1 HZ1.out) 0
    have x1_1 := blk_cell (HBX.out w1 HZ1.out) 1
    have x1_2 := blk_cell (HBX.out w1 HZ1.out) 2
    have x1_3 := blk_cell (HBX.out w1 HZ1.out) 3
    have x1_4 := blk_cell (HBX.out w1 HZ1.out) 4
    have x1_5 := blk_cell (HBX.out w1 HZ1.out) 5
    have x1_6 := blk_cell (HBX.out w1 HZ1.out) 6
    simp only [List.getElem?_toArray, List.getElem?_cons_zero, List.getElem?_cons_succ] at x1_0 x1_1 x1_2 x1_3 x1_4 x1_5 x1_6
    go_wp2_with (go_at_call 70; ((with_reducible refine (H4.out _).mono ?_)))
    rintro e w2 ⟨rfl, hb⟩
    have HZ2 := Aside0.mk (below_step HZ1.out hb)
    clear hb
    clear x1_0 x1_1 x1_2 x1_3 x1_4 x1_5 x1_6
    have x2_0 := blk_cell (HBX.out w2 HZ2.out) 0
    have x2_1 := blk_cell (HBX.out w2 HZ2.out) 1
    have x2_2 := blk_cell (HBX.out w2 HZ2.out) 2
    have x2_3 := blk_cell (HBX.out w2 HZ2.out) 3
    have x2_4 := blk_cell (HBX.out w2 HZ2.out) 4
    have x2_5 := blk_cell (HBX.out w2 HZ2.out) 5
    have x2_6 := blk_cell (HBX.out w2 HZ2.out) 6
    simp only [List.getElem?_toArray, List.getElem?_cons_zero, List.getElem?_cons_succ] at x2_0 x2_1 x2_2 x2_3 x2_4 x2_5 x2_6
    go_wp2_with (go_at_call 71; ((with_reducible refine (H6.out _).mono ?_)))
    rintro e w ⟨rfl, rfl⟩
    go_wp2_with (go_at_call 71; ((with_reducible refine (H7.out _).mono ?_)))
    rintro e w ⟨rfl, rfl⟩
    go_wp2_with (go_at_call 32; ((with_reducible refine (H8.out _ (below_step HW0.out HZ2.out)).mono ?_)))
    rintro e w3 ⟨rfl, hb⟩
    have HZ3 := Aside0.mk (below_step HZ2.out hb)
    clear hb
    clear x2_0 x2_1 x2_2 x2_3 x2_4 x2_5 x2_6
    have x3_0 := blk_cell (HBX.out w3 HZ3.out) 0
    have x3_1 := blk_cell (HBX.out w3 HZ3.out) 1
    have x3_2 := blk_cell (HBX.out w3 HZ3.out) 2
    have x3_3 := blk_cell (HBX.out w3 HZ3.out) 3
    have x3_4 := blk_cell (HBX.out w3 HZ3.out) 4
    have x3_5 := blk_cell (HBX.out w3 HZ3.out) 5
    have x3_6 := blk_cell (HBX.out w3 HZ3.out) 6
    simp only [List.getElem?_toArray, List.getElem?_cons_zero, List.getElem?_cons_succ] at x3_0 x3_1 x3_2 x3_3 x3_4 x3_5 x3_6
    go_wp2
    go_ret
    exact ⟨by rw [HR.out, HE.out]; rfl, below_step HW0.out HZ3.out⟩
  obtain ⟨h1, h2⟩ := ne_empty h5
  have HE : Aside0 (decide (s3 = ⟨#[]⟩) = false) := ⟨decide_eq_false h5⟩
  clear h5
  cases b5
  case false =>
    go_enter Tryd.func42, Tryd.ntmps42
    go_wp2_with (go_at_call 70; ((with_reducible refine (H3.out _).mono ?_)))
    rintro e w1 ⟨rfl, hb⟩
    have HZ1 := Aside0.mk (hb)
    clear hb
    have x1_0 := blk_cell (HBX.out w1 HZ1.out) 0
    have x1_1 := blk_cell (HBX.out w1 HZ1.out) 1
    have x1_2 := blk_cell (HBX.out w1 HZ1.out) 2
    have x1_3 := blk_cell (HBX.out w1 HZ1.out) 3
    have x1_4 := blk_cell (HBX.out w1 HZ1.out) 4
    have x1_5 := blk_cell (HBX.out w1 HZ1.out) 5
    have x1_6 := blk_cell (HBX.out w1 HZ1.out) 6
    simp only [List.getElem?_toArray, List.getElem?_cons_zero, List.getElem?_cons_succ] at x1_0 x1_1 x1_2 x1_3 x1_4 x1_5 x1_6
    go_wp2_with (go_at_call 70; ((with_reducible refine (H4.out _).mono ?_)))
    rintro e w2 ⟨rfl, hb⟩
    have HZ2 := Aside0.mk (below_step HZ1.out hb)
    clear hb
    clear x1_0 x1_1 x1_2 x1_3 x1_4 x1_5 x1_6
    have x2_0 := blk_cell (HBX.out w2 HZ2.out) 0
    have x2_1 := blk_cell (HBX.out w2 HZ2.out) 1
    have x2_2 := blk_cell (HBX.out w2 HZ2.out) 2
    have x2_3 := blk_cell (HBX.out w2 HZ2.out) 3
    have x2_4 := blk_cell (HBX.out w2 HZ2.out) 4
    have x2_5 := blk_cell (HBX.out w2 HZ2.out) 5
    have x2_6 := blk_cell (HBX.out w2 HZ2.out) 6
    simp only [List.getElem?_toArray, List.getElem?_cons_zero, List.getElem?_cons_succ] at x2_0 x2_1 x2_2 x2_3 x2_4 x2_5 x2_6
    go_wp2_with (go_at_call 31; ((with_reducible refine (H5.out _ (below_step HW0.out HZ2.out)).mono ?_)))
    rintro e w3 ⟨rfl, hb⟩
    have HZ3 := Aside0.mk (below_step HZ2.out hb)
    clear hb
    clear x2_0 x2_1 x2_2 x2_3 x2_4 x2_5 x2_6
    have x3_0 := blk_cell (HBX.out w3 HZ3.out) 0
    have x3_1 := blk_cell (HBX.out w3 HZ3.out) 1
    have x3_2 := blk_cell (HBX.out w3 HZ3.out) 2
    have x3_3 := blk_cell (HBX.out w3 HZ3.out) 3
    have x3_4 := blk_cell (HBX.out w3 HZ3.out) 4
    have x3_5 := blk_cell (HBX.out w3 HZ3.out) 5
    have x3_6 := blk_cell (HBX.out w3 HZ3.out) 6
    simp only [List.getElem?_toArray, List.getElem?_cons_zero, List.getElem?_cons_succ] at x3_0 x3_1 x3_2 x3_3 x3_4 x3_5 x3_6
    go_wp2
    go_ret
    exact ⟨by rw [HR.out, HE.out]; rfl, below_step HW0.out HZ3.out⟩
  cases b6
  case false =>
    go_enter Tryd.func42, Tryd.ntmps42
    go_wp2_with (go_at_call 70; ((with_reducible refine (H3.out _).mono ?_)))
    rintro e w1 ⟨rfl, hb⟩
    have HZ1 := Aside0.mk (hb)
    clear hb
    have x1_0 := blk_cell (HBX.out w1 HZ1.out) 0
    have x1_1 := blk_cell (HBX.out w1 HZ1.out) 1
    have x1_2 := blk_cell (HBX.out w1 HZ1.out) 2
    have x1_3 := blk_cell (HBX.out w1 HZ1.out) 3
    have x1_4 := blk_cell (HBX.out w1 HZ1.out) 4
    have x1_5 := blk_cell (HBX.out w1 HZ1.out) 5
    have x1_6 := blk_cell (HBX.out w1 HZ1.out) 6
    simp only [List.getElem?_toArray, List.getElem?_cons_zero, List.getElem?_cons_succ] at x1_0 x1_1 x1_2 x1_3 x1_4 x1_5 x1_6
    go_wp2_with (go_at_call 70; ((with_reducible refine (H4.out _).mono ?_)))
    rintro e w2 ⟨rfl, hb⟩
    have HZ2 := Aside0.mk (below_step HZ1.out hb)
    clear hb
    clear x1_0 x1_1 x1_2 x1_3 x1_4 x1_5 x1_6
    have x2_0 := blk_cell (HBX.out w2 HZ2.out) 0
    have x2_1 := blk_cell (HBX.out w2 HZ2.out) 1
    have x2_2 := blk_cell (HBX.out w2 HZ2.out) 2
    have x2_3 := blk_cell (HBX.out w2 HZ2.out) 3
    have x2_4 := blk_cell (HBX.out w2 HZ2.out) 4
    have x2_5 := blk_cell (HBX.out w2 HZ2.out) 5
    have x2_6 := blk_cell (HBX.out w2 HZ2.out) 6
    simp only [List.getElem?_toArray, List.getElem?_cons_zero, List.getElem?_cons_succ] at x2_0 x2_1 x2_2 x2_3 x2_4 x2_5 x2_6
    go_wp2_with (go_at_call 31; ((with_reducible refine (H5.out _ (below_step HW0.out HZ2.out)).mono ?_)))
    rintro e w3 ⟨rfl, hb⟩
    have HZ3 := Aside0.mk (below_step HZ2.out hb)
    clear hb
    clear x2_0 x2_1 x2_2 x2_3 x2_4 x2_5 x2_6
    have x3_0 := blk_cell (HBX.out w3 HZ3.out) 0
    have x3_1 := blk_cell (HBX.out w3 HZ3.out) 1
    have x3_2 := blk_cell (HBX.out w3 HZ3.out) 2
    have x3_3 := blk_cell (HBX.out w3 HZ3.out) 3
    have x3_4 := blk_cell (HBX.out w3 HZ3.out) 4
    have x3_5 := blk_cell (HBX.out w3 HZ3.out) 5
    have x3_6 := blk_cell (HBX.out w3 HZ3.out) 6
    simp only [List.getElem?_toArray, List.getElem?_cons_zero, List.getElem?_cons_succ] at x3_0 x3_1 x3_2 x3_3 x3_4 x3_5 x3_6
    go_wp2_with (go_at_call 71; ((with_reducible refine (H6.out _).mono ?_)))
    rintro e w ⟨rfl, rfl⟩
    go_wp2
    go_ret
    exact ⟨by rw [HR.out, HE.out]; rfl, below_step HW0.out HZ3.out⟩
  cases b7
  case false =>
    go_enter Tryd.func42, Tryd.ntmps42
    go_wp2_with (go_at_call 70; ((with_reducible refine (H3.out _).mono ?_)))
    rintro e w1 ⟨rfl, hb⟩
    have HZ1 := Aside0.mk (hb)
    clear hb
    have x1_0 := blk_cell (HBX.out w1 HZ1.out) 0
    have x1_1 := blk_cell (HBX.out w1 HZ1.out) 1
    have x1_2 := blk_cell (HBX.out w1 HZ1.out) 2
    have x1_3 := blk_cell (HBX.out w1 HZ1.out) 3
    have x1_4 := blk_cell (HBX.out w1 HZ1.out) 4
    have x1_5 := blk_cell (HBX.out w1 HZ1.out) 5
    have x1_6 := blk_cell (HBX.out w1 HZ1.out) 6
    simp only [List.getElem?_toArray, List.getElem?_cons_zero, List.getElem?_cons_succ] at x1_0 x1_1 x1_2 x1_3 x1_4 x1_5 x1_6
    go_wp2_with (go_at_call 70; ((with_reducible refine (H4.out _).mono ?_)))
    rintro e w2 ⟨rfl, hb⟩
    have HZ2 := Aside0.mk (below_step HZ1.out hb)
    clear hb
    clear x1_0 x1_1 x1_2 x1_3 x1_4 x1_5 x1_6
    have x2_0 := blk_cell (HBX.out w2 HZ2.out) 0
    have x2_1 := blk_cell (HBX.out w2 HZ2.out) 1
    have x2_2 := blk_cell (HBX.out w2 HZ2.out) 2
    have x2_3 := blk_cell (HBX.out w2 HZ2.out) 3
    have x2_4 := blk_cell (HBX.out w2 HZ2.out) 4
    have x2_5 := blk_cell (HBX.out w2 HZ2.out) 5
    have x2_6 := blk_cell (HBX.out w2 HZ2.out) 6
    simp only [List.getElem?_toArray, List.getElem?_cons_zero, List.getElem?_cons_succ] at x2_0 x2_1 x2_2 x2_3 x2_4 x2_5 x2_6
    go_wp2_with (go_at_call 31; ((with_reducible refine (H5.out _ (below_step HW0.out HZ2.out)).mono ?_)))
    rintro e w3 ⟨rfl, hb⟩
    have HZ3 := Aside0.mk (below_step HZ2.out hb)
    clear hb
    clear x2_0 x2_1 x2_2 x2_3 x2_4 x2_5 x2_6
    have x3_0 := blk_cell (HBX.out w3 HZ3.out) 0
    have x3_1 := blk_cell (HBX.out w3 HZ3.out) 1
    have x3_2 := blk_cell (HBX.out w3 HZ3.out) 2
    have x3_3 := blk_cell (HBX.out w3 HZ3.out) 3
    have x3_4 := blk_cell (HBX.out w3 HZ3.out) 4
    have x3_5 := blk_cell (HBX.out w3 HZ3.out) 5
    have x3_6 := blk_cell (HBX.out w3 HZ3.out) 6
    simp only [List.getElem?_toArray, List.getElem?_cons_zero, List.getElem?_cons_succ] at x3_0 x3_1 x3_2 x3_3 x3_4 x3_5 x3_6
    go_wp2_with (go_at_call 71; ((with_reducible refine (H6.out _).mono ?_)))
    rintro e w ⟨rfl, rfl⟩
    go_wp2_with (go_at_call 71; ((with_reducible refine (H7.out _).mono ?_)))
    rintro e w ⟨rfl, rfl⟩
    go_wp2
    go_ret
    exact ⟨by rw [HR.out, HE.out]; rfl, below_step HW0.out HZ3.out⟩
  go_enter Tryd.func42, Tryd.ntmps42
  go_wp2_with (go_at_call 70; ((with_reducible refine (H3.out _).mono ?_)))
  rintro e w1 ⟨rfl, hb⟩
  have HZ1 := Aside0.mk (hb)
  clear hb
  have x1_0 := blk_cell (HBX.out w1 HZ1.out) 0
  have x1_1 := blk_cell (HBX.out w1 HZ1.out) 1
  have x1_2 := blk_cell (HBX.out w1 HZ1.out) 2
  have x1_3 := blk_cell (HBX.out w1 HZ1.out) 3
  have x1_4 := blk_cell (HBX.out w1 HZ1.out) 4
  have x1_5 := blk_cell (HBX.out w1 HZ1.out) 5
  have x1_6 := blk_cell (HBX.out w1 HZ1.out) 6
  simp only [List.getElem?_toArray, List.getElem?_cons_zero, List.getElem?_cons_succ] at x1_0 x1_1 x1_2 x1_3 x1_4 x1_5 x1_6
  go_wp2_with (go_at_call 70; ((with_reducible refine (H4.out _).mono ?_)))
  rintro e w2 ⟨rfl, hb⟩
  have HZ2 := Aside0.mk (below_step HZ1.out hb)
  clear hb
  clear x1_0 x1_1 x1_2 x1_3 x1_4 x1_5 x1_6
  have x2_0 := blk_cell (HBX.out w2 HZ2.out) 0
  have x2_1 := blk_cell (HBX.out w2 HZ2.out) 1
  have x2_2 := blk_cell (HBX.out w2 HZ2.out) 2
  have x2_3 := blk_cell (HBX.out w2 HZ2.out) 3
  have x2_4 := blk_cell (HBX.out w2 HZ2.out) 4
  have x2_5 := blk_cell (HBX.out w2 HZ2.out) 5
  have x2_6 := blk_cell (HBX.out w2 HZ2.out) 6
  simp only [List.getElem?_toArray, List.getElem?_cons_zero, List.getElem?_cons_succ] at x2_0 x2_1 x2_2 x2_3 x2_4 x2_5 x2_6
  go_wp2_with (go_at_call 31; ((with_reducible refine (H5.out _ (below_step HW0.out HZ2.out)).mono ?_)))
  rintro e w3 ⟨rfl, hb⟩
  have HZ3 := Aside0.mk (below_step HZ2.out hb)
  clear hb
  clear x2_0 x2_1 x2_2 x2_3 x2_4 x2_5 x2_6
  have x3_0 := blk_cell (HBX.out w3 HZ3.out) 0
  have x3_1 := blk_cell (HBX.out w3 HZ3.out) 1
  have x3_2 := blk_cell (HBX.out w3 HZ3.out) 2
  have x3_3 := blk_cell (HBX.out w3 HZ3.out) 3
  have x3_4 := blk_cell (HBX.out w3 HZ3.out) 4
  have x3_5 := blk_cell (HBX.out w3 HZ3.out) 5
  have x3_6 := blk_cell (HBX.out w3 HZ3.out) 6
  simp only [List.getElem?_toArray, List.getElem?_cons_zero, List.getElem?_cons_succ] at x3_0 x3_1 x3_2 x3_3 x3_4 x3_5 x3_6
  go_wp2_with (go_at_call 71; ((with_reducible refine (H6.out _).mono ?_)))
  rintro e w ⟨rfl, rfl⟩
  go_wp2_with (go_at_call 71; ((with_reducible refine (H7.out _).mono ?_)))
  rintro e w ⟨rfl, rfl⟩
  go_wp2_with (go_at_call 32; ((with_reducible refine (H8.out _ (below_step HW0.out HZ3.out)).mono ?_)))
  rintro e w4 ⟨rfl, hb⟩
  have HZ4 := Aside0.mk (below_step HZ3.out hb)
  clear hb
  clear x3_0 x3_1 x3_2 x3_3 x3_4 x3_5 x3_6
  have x4_0 := blk_cell (HBX.out w4 HZ4.out) 0
  have x4_1 := blk_cell (HBX.out w4 HZ4.out) 1
  have x4_2 := blk_cell (HBX.out w4 HZ4.out) 2
  have x4_3 := blk_cell (HBX.out w4 HZ4.out) 3
  have x4_4 := blk_cell (HBX.out w4 HZ4.out) 4
  have x4_5 := blk_cell (HBX.out w4 HZ4.out) 5
  have x4_6 := blk_cell (HBX.out w4 HZ4.out) 6
  simp only [List.getElem?_toArray, List.getElem?_cons_zero, List.getElem?_cons_succ] at x4_0 x4_1 x4_2 x4_3 x4_4 x4_5 x4_6
  go_wp2
  go_ret
  exact ⟨by rw [HR.out, HE.out]; rfl, below_step HW0.out HZ4.out⟩
end Go.Proofs.YtnlhomgclplnhaaDoor.E

