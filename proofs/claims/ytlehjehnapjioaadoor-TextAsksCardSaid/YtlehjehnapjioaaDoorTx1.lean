/- text.Runes, all, Name, Pass, Note: walked. -/
import Derived.Test.YtlehjehnapjioaaDoorTx0
import Derived.Test.YtlehjehnapjioaaDoorBld
import Derived.Test.YtlehjehnapjioaaDoorF
import Derived.Lib.OthersKept
import Derived.WalkSmall
namespace Go.Proofs.YtlehjehnapjioaaDoor.E
open Go.RowKit Go.Lib Go.Proofs.YtlehjehnapjioaaDoorW.PrintWords Go.Proofs.YtlehjehnapjioaaDoorW.PrintLast Go.Proofs.YtlehjehnapjioaaDoorW.PrintMore Go.Proofs.YtlehjehnapjioaaDoor.Pr
set_option linter.unusedVariables false
set_option linter.unusedSimpArgs false
/-- The library's two tables read as they were laid. -/
def RootsIn (w : World) : Prop := Lib.Utf8Tabs 0 1 w
theorem RootsIn.below {w w' : World} {n : Nat} (h : RootsIn w) (hn : n = w.heap.size) (hb : Below n w w') : RootsIn w' := by
  subst hn
  exact Utf8Tabs_below h hb
def strL (s : ByteArray) : Bs := s.data.toList
theorem strL_len (s : ByteArray) : (strL s).length = s.size := by unfold strL; rw [Array.length_toList]; rfl
theorem dec_at (s : ByteArray) (p : Nat) : (Utf8.decode s p).2 = wid ((strL s).drop p) ∧ (Utf8.decode s p).1 = run1 ((strL s).drop p) := by
  unfold wid run1 strL
  rw [decodeL_drop]
  exact ⟨rfl, rfl⟩
theorem drop_ne {s : ByteArray} {p : Nat} (h : p < s.size) : (strL s).drop p ≠ [] := by
  intro e
  have := congrArg List.length e
  rw [List.length_drop, strL_len] at this
  simp at this
  omega
theorem drop_end {s : ByteArray} {p : Nat} (h : ¬ p < s.size) : (strL s).drop p = [] := List.drop_eq_nil_of_le (by rw [strL_len]; omega)
def RunesPost (o : Option Nat) (w : World) (e : Ending) (w' : World) : Prop := e = .returned (.tuple #[.int .i64 ((o.getD 0 : Nat) : Int), .bool o.isSome]) ∧ Below w.heap.size w w'
def BoolIs (b : Bool) (w : World) (e : Ending) (w' : World) : Prop := e = .returned (.bool b) ∧ Below w.heap.size w w'
def RunesAt (s : ByteArray) (n : Nat) (p k : Nat) : Prop := ∃ j, runesL ((strL s).drop p) = some j ∧ k + j = n
set_option maxHeartbeats 2000000 in
set_option maxRecDepth 100000 in
theorem runes_any (s : ByteArray) (w : World) (hs : s.size ≤ 140737488351232) (hG : RootsIn w) :
    Calls Tryd.prog 12 #[.string s] w (RunesPost (runesL (strL s)) w) := by
  have hv := Tryd.utf8_ValidString s w (by omega) hG
  have hvr := valid_runes (strL s)
  cases hr : runesL (strL s) with
  | none =>
    rw [hr] at hvr
    have hv2 : Calls Tryd.prog 22 #[.string s] w (BoolIs false w) := hv.mono (by rintro e w' ⟨rfl, hb⟩; exact ⟨by rw [show validD s.data.toList = false from hvr], hb⟩)
    have HV := Aside0.mk hv2
    clear hv hvr hr hv2 hG
    go_enter Tryd.func12, Tryd.ntmps12
    go_wp2_with (go_at_call 22; ((with_reducible refine (HV.out).mono ?_); rintro e w1 ⟨rfl, hb1⟩); have HB1 := Aside0.mk hb1; clear hb1)
    go_ret2
    exact ⟨rfl, HB1.out⟩
  | some n =>
    rw [hr] at hvr
    have hv2 : Calls Tryd.prog 22 #[.string s] w (BoolIs true w) := hv.mono (by rintro e w' ⟨rfl, hb⟩; exact ⟨by rw [show validD s.data.toList = true from hvr], hb⟩)
    have HV := Aside0.mk hv2
    have hn := runesL_le _ _ hr
    rw [strL_len] at hn
    have H0 : Aside0 (RunesAt s n 0 0) := ⟨n, hr, by omega⟩
    clear hv hvr hr hv2 hG
    go_enter Tryd.func12, Tryd.ntmps12
    go_wp2_with (go_at_call 22; ((with_reducible refine (HV.out).mono ?_); rintro e w1 ⟨rfl, hb1⟩); have HB1 := Aside0.mk hb1; clear hb1)
    go_loopw [4] (fun v4 wr => ∃ (p k : Nat), wr.heap[w1.heap.size]? = some (.stringIter s p) ∧ v4 = .int .i64 (k : Int) ∧ k ≤ n ∧ Aside0 (RunesAt s n p k) ∧ Below w1.heap.size w1 wr) (fun _ wr => s.size - wr.iterPos w1.heap.size)
    case atStart => exact ⟨0, 0, by simpa using World.iter_heap w1 s 0, rfl, Nat.zero_le _, H0, by simpa [World.iter] using (Below.refl _ w1).alloc (Nat.le_refl _) _⟩
    case round =>
      obtain ⟨p, k, hit, rfl, hkn, hH, hbw⟩ := hrel
      have hsz : w1.heap.size < wr.heap.size := (Array.getElem?_eq_some_iff.1 hit).1
      by_cases hp : p < s.size
      · have hnx : ∀ ty, (Instr.next (.pointer (some ⟨w1.heap.size, 0, none⟩)) true ty).run Tryd.prog wr = _ := fun ty => Lib.run_next_any_at wr w1.heap.size s p ty hit hp
        have hit2 := Lib.iterAt_heap wr w1.heap.size s p (p + (Utf8.decode s p).2) hit
        have hbw2 := Lib.below_iterAt hbw (k := w1.heap.size) (by omega) s (p + (Utf8.decode s p).2)
        have hw := wid_pos ((strL s).drop p)
        rw [← (dec_at s p).1] at hw
        obtain ⟨j, hj, hkj⟩ := hH.out
        have hstep : 1 ≤ j ∧ RunesAt s n (p + (Utf8.decode s p).2) (k + 1) := by
          rw [runesL_step _ (drop_ne hp)] at hj
          split at hj
          · cases hj
          · obtain ⟨m, hm, rfl⟩ := Option.map_eq_some_iff.1 hj
            rw [List.drop_drop, ← (dec_at s p).1] at hm
            exact ⟨by omega, m, hm, by omega⟩
        have H2 := Aside0.mk hstep.2
        have hk1 : k < n := by have := hstep.1; omega
        have hk2 : wrap64 ((k : Int) + 1) = ((k + 1 : Nat) : Int) := by unfold wrap64; omega
        have hms : s.size - (wr.iterAt w1.heap.size s (p + (Utf8.decode s p).2)).iterPos w1.heap.size < s.size - wr.iterPos w1.heap.size := by
          simp only [World.iterPos, hit2, hit]
          omega
        have HM := Aside0.mk hms
        clear hj hkj hstep hms
        go_wp2
        go_roundw
        case rel => exact ⟨_, k + 1, hit2, by go_num, by omega, H2, hbw2⟩
        case measure => exact HM.out
      · have hnx : ∀ ty, (Instr.next (.pointer (some ⟨w1.heap.size, 0, none⟩)) true ty).run Tryd.prog wr = _ := fun ty => Lib.run_next_end_at wr w1.heap.size s p ty hit hp
        have hkn2 : k = n := by
          obtain ⟨j, hj, hkj⟩ := hH.out
          rw [drop_end hp, runesL_nil] at hj
          cases hj
          omega
        subst hkn2
        go_wp2
        go_ret2
        exact ⟨rfl, below_step HB1.out hbw⟩
/-- What a rune may be: a function of the place and the rune. -/
def MayIs (F : FuncId) (may : Nat → Nat → Bool) : Prop := ∀ (i n : Nat) (W : World), i ≤ 140737488351232 → n ≤ 1114111 → Calls Tryd.prog F #[.int .i64 (i : Int), .int .i32 (n : Int)] W fun e w' => e = .returned (.bool (may i n)) ∧ Drawn0 W w'
def MayPost (b : Bool) (W : World) (e : Ending) (w' : World) : Prop := e = .returned (.bool b) ∧ Below W.heap.size W w'
theorem rune_le2 (l : Bs) : run1 l ≤ 1114111 := decodeL_rune l
set_option maxHeartbeats 2000000 in
set_option maxRecDepth 100000 in
theorem all_name (may : Nat → Nat → Bool) (hF : MayIs 29 may) (s : ByteArray) (w : World) (hs : s.size ≤ 140737488351232) (hG : RootsIn w) :
    Calls Tryd.prog 28 #[.string s, .func (.func 29) #[] #[]] w (BoolIs (validD (strL s) && allR may 0 (strL s)) w) := by
  have hv := Tryd.utf8_ValidString s w (by omega) hG
  cases hr : validD (strL s) with
  | false =>
    have hv2 : Calls Tryd.prog 22 #[.string s] w (BoolIs false w) := hv.mono (by rintro e w' ⟨rfl, hb⟩; exact ⟨by rw [show validD s.data.toList = false from hr], hb⟩)
    have HV := Aside0.mk hv2
    clear hv hr hv2 hG hF
    go_enter Tryd.func28, Tryd.ntmps28
    go_wp2_with (go_at_call 22; ((with_reducible refine (HV.out).mono ?_); rintro e w1 ⟨rfl, hb1⟩); have HB1 := Aside0.mk hb1; clear hb1)
    go_ret
    exact ⟨rfl, HB1.out⟩
  | true =>
    have hv2 : Calls Tryd.prog 22 #[.string s] w (BoolIs true w) := hv.mono (by rintro e w' ⟨rfl, hb⟩; exact ⟨by rw [show validD s.data.toList = true from hr], hb⟩)
    have HV := Aside0.mk hv2
    rw [Bool.true_and]
    obtain ⟨ANS, hA⟩ : ∃ ANS, allR may 0 (strL s) = ANS := ⟨_, rfl⟩
    rw [hA]
    have H0 : Aside0 (allR may 0 ((strL s).drop 0) = ANS) := ⟨hA⟩
    have HF := Aside0.mk hF
    clear hv hr hv2 hG hF hA
    go_enter Tryd.func28, Tryd.ntmps28
    go_wp2_with (go_at_call 22; ((with_reducible refine (HV.out).mono ?_); rintro e w1 ⟨rfl, hb1⟩); have HB1 := Aside0.mk hb1; clear hb1)
    go_loopw [] (fun wr => ∃ (p : Nat), wr.heap[w1.heap.size]? = some (.stringIter s p) ∧ Aside0 (allR may p ((strL s).drop p) = ANS) ∧ Below w1.heap.size w1 wr) (fun wr => s.size - wr.iterPos w1.heap.size)
    case atStart => exact ⟨0, by simpa using World.iter_heap w1 s 0, H0, by simpa [World.iter] using (Below.refl _ w1).alloc (Nat.le_refl _) _⟩
    case round =>
      obtain ⟨p, hit, hH, hbw⟩ := hrel
      have hsz : w1.heap.size < wr.heap.size := (Array.getElem?_eq_some_iff.1 hit).1
      by_cases hp : p < s.size
      · have hnx : ∀ ty, (Instr.next (.pointer (some ⟨w1.heap.size, 0, none⟩)) true ty).run Tryd.prog wr = _ := fun ty => Lib.run_next_any_at wr w1.heap.size s p ty hit hp
        have hit2 := Lib.iterAt_heap wr w1.heap.size s p (p + (Utf8.decode s p).2) hit
        have hbw2 := Lib.below_iterAt hbw (k := w1.heap.size) (by omega) s (p + (Utf8.decode s p).2)
        have hw := wid_pos ((strL s).drop p)
        rw [← (dec_at s p).1] at hw
        have hmay := HF.out p (Utf8.decode s p).1 (wr.iterAt w1.heap.size s (p + (Utf8.decode s p).2)) (by omega) (by rw [(dec_at s p).2]; exact rune_le2 _)
        have hstep : (may p (Utf8.decode s p).1 && allR may (p + (Utf8.decode s p).2) ((strL s).drop (p + (Utf8.decode s p).2))) = ANS := by
          rw [(dec_at s p).1, (dec_at s p).2, ← List.drop_drop, ← allR_step may p _ (drop_ne hp)]
          exact hH.out
        have hms : ∀ n, s.size - ((wr.iterAt w1.heap.size s (p + (Utf8.decode s p).2)).drewN n).iterPos w1.heap.size < s.size - wr.iterPos w1.heap.size := by
          intro n
          have e1 : ((wr.iterAt w1.heap.size s (p + (Utf8.decode s p).2)).drewN n).iterPos w1.heap.size = p + (Utf8.decode s p).2 := by simp [World.iterPos, hit2]
          have e2 : wr.iterPos w1.heap.size = p := by simp [World.iterPos, hit]
          rw [e1, e2]
          omega
        have HM := Aside0.mk hms
        cases hm : may p (Utf8.decode s p).1 with
        | true =>
          rw [hm] at hmay hstep
          rw [Bool.true_and] at hstep
          have HMAY := Aside0.mk hmay
          have H2 := Aside0.mk hstep
          clear hmay hstep hms hm hH
          go_wp2_with (go_at_call 29; ((with_reducible refine (HMAY.out).mono ?_); rintro e w' ⟨rfl, ⟨n, rfl⟩⟩))
          go_roundw
          case rel => exact ⟨_, hit2, H2, pw_below_drewN hbw2 n⟩
          case measure => exact HM.out n
        | false =>
          rw [hm] at hmay hstep
          rw [Bool.false_and] at hstep
          subst hstep
          have HMAY := Aside0.mk hmay
          clear hmay hms hm hH
          go_wp2_with (go_at_call 29; ((with_reducible refine (HMAY.out).mono ?_); rintro e w' ⟨rfl, ⟨n, rfl⟩⟩))
          go_ret
          exact ⟨rfl, below_step HB1.out (pw_below_drewN hbw2 n)⟩
      · have hnx : ∀ ty, (Instr.next (.pointer (some ⟨w1.heap.size, 0, none⟩)) true ty).run Tryd.prog wr = _ := fun ty => Lib.run_next_end_at wr w1.heap.size s p ty hit hp
        have hans : ANS = true := by rw [← hH.out, drop_end hp, allR_nil]
        subst hans
        clear hH
        go_wp2
        go_ret
        exact ⟨rfl, below_step HB1.out hbw⟩
set_option maxHeartbeats 2000000 in
set_option maxRecDepth 100000 in
theorem all_pass (may : Nat → Nat → Bool) (hF : MayIs 30 may) (s : ByteArray) (w : World) (hs : s.size ≤ 140737488351232) (hG : RootsIn w) :
    Calls Tryd.prog 28 #[.string s, .func (.func 30) #[] #[]] w (BoolIs (validD (strL s) && allR may 0 (strL s)) w) := by
  have hv := Tryd.utf8_ValidString s w (by omega) hG
  cases hr : validD (strL s) with
  | false =>
    have hv2 : Calls Tryd.prog 22 #[.string s] w (BoolIs false w) := hv.mono (by rintro e w' ⟨rfl, hb⟩; exact ⟨by rw [show validD s.data.toList = false from hr], hb⟩)
    have HV := Aside0.mk hv2
    clear hv hr hv2 hG hF
    go_enter Tryd.func28, Tryd.ntmps28
    go_wp2_with (go_at_call 22; ((with_reducible refine (HV.out).mono ?_); rintro e w1 ⟨rfl, hb1⟩); have HB1 := Aside0.mk hb1; clear hb1)
    go_ret
    exact ⟨rfl, HB1.out⟩
  | true =>
    have hv2 : Calls Tryd.prog 22 #[.string s] w (BoolIs true w) := hv.mono (by rintro e w' ⟨rfl, hb⟩; exact ⟨by rw [show validD s.data.toList = true from hr], hb⟩)
    have HV := Aside0.mk hv2
    rw [Bool.true_and]
    obtain ⟨ANS, hA⟩ : ∃ ANS, allR may 0 (strL s) = ANS := ⟨_, rfl⟩
    rw [hA]
    have H0 : Aside0 (allR may 0 ((strL s).drop 0) = ANS) := ⟨hA⟩
    have HF := Aside0.mk hF
    clear hv hr hv2 hG hF hA
    go_enter Tryd.func28, Tryd.ntmps28
    go_wp2_with (go_at_call 22; ((with_reducible refine (HV.out).mono ?_); rintro e w1 ⟨rfl, hb1⟩); have HB1 := Aside0.mk hb1; clear hb1)
    go_loopw [] (fun wr => ∃ (p : Nat), wr.heap[w1.heap.size]? = some (.stringIter s p) ∧ Aside0 (allR may p ((strL s).drop p) = ANS) ∧ Below w1.heap.size w1 wr) (fun wr => s.size - wr.iterPos w1.heap.size)
    case atStart => exact ⟨0, by simpa using World.iter_heap w1 s 0, H0, by simpa [World.iter] using (Below.refl _ w1).alloc (Nat.le_refl _) _⟩
    case round =>
      obtain ⟨p, hit, hH, hbw⟩ := hrel
      have hsz : w1.heap.size < wr.heap.size := (Array.getElem?_eq_some_iff.1 hit).1
      by_cases hp : p < s.size
      · have hnx : ∀ ty, (Instr.next (.pointer (some ⟨w1.heap.size, 0, none⟩)) true ty).run Tryd.prog wr = _ := fun ty => Lib.run_next_any_at wr w1.heap.size s p ty hit hp
        have hit2 := Lib.iterAt_heap wr w1.heap.size s p (p + (Utf8.decode s p).2) hit
        have hbw2 := Lib.below_iterAt hbw (k := w1.heap.size) (by omega) s (p + (Utf8.decode s p).2)
        have hw := wid_pos ((strL s).drop p)
        rw [← (dec_at s p).1] at hw
        have hmay := HF.out p (Utf8.decode s p).1 (wr.iterAt w1.heap.size s (p + (Utf8.decode s p).2)) (by omega) (by rw [(dec_at s p).2]; exact rune_le2 _)
        have hstep : (may p (Utf8.decode s p).1 && allR may (p + (Utf8.decode s p).2) ((strL s).drop (p + (Utf8.decode s p).2))) = ANS := by
          rw [(dec_at s p).1, (dec_at s p).2, ← List.drop_drop, ← allR_step may p _ (drop_ne hp)]
          exact hH.out
        have hms : ∀ n, s.size - ((wr.iterAt w1.heap.size s (p + (Utf8.decode s p).2)).drewN n).iterPos w1.heap.size < s.size - wr.iterPos w1.heap.size := by
          intro n
          have e1 : ((wr.iterAt w1.heap.size s (p + (Utf8.decode s p).2)).drewN n).iterPos w1.heap.size = p + (Utf8.decode s p).2 := by simp [World.iterPos, hit2]
          have e2 : wr.iterPos w1.heap.size = p := by simp [World.iterPos, hit]
          rw [e1, e2]
          omega
        have HM := Aside0.mk hms
        cases hm : may p (Utf8.decode s p).1 with
        | true =>
          rw [hm] at hmay hstep
          rw [Bool.true_and] at hstep
          have HMAY := Aside0.mk hmay
          have H2 := Aside0.mk hstep
          clear hmay hstep hms hm hH
          go_wp2_with (go_at_call 30; ((with_reducible refine (HMAY.out).mono ?_); rintro e w' ⟨rfl, ⟨n, rfl⟩⟩))
          go_roundw
          case rel => exact ⟨_, hit2, H2, pw_below_drewN hbw2 n⟩
          case measure => exact HM.out n
        | false =>
          rw [hm] at hmay hstep
          rw [Bool.false_and] at hstep
          subst hstep
          have HMAY := Aside0.mk hmay
          clear hmay hms hm hH
          go_wp2_with (go_at_call 30; ((with_reducible refine (HMAY.out).mono ?_); rintro e w' ⟨rfl, ⟨n, rfl⟩⟩))
          go_ret
          exact ⟨rfl, below_step HB1.out (pw_below_drewN hbw2 n)⟩
      · have hnx : ∀ ty, (Instr.next (.pointer (some ⟨w1.heap.size, 0, none⟩)) true ty).run Tryd.prog wr = _ := fun ty => Lib.run_next_end_at wr w1.heap.size s p ty hit hp
        have hans : ANS = true := by rw [← hH.out, drop_end hp, allR_nil]
        subst hans
        clear hH
        go_wp2
        go_ret
        exact ⟨rfl, below_step HB1.out hbw⟩
set_option maxHeartbeats 2000000 in
set_option maxRecDepth 100000 in
theorem all_note (may : Nat → Nat → Bool) (hF : MayIs 31 may) (s : ByteArray) (w : World) (hs : s.size ≤ 140737488351232) (hG : RootsIn w) :
    Calls Tryd.prog 28 #[.string s, .func (.func 31) #[] #[]] w (BoolIs (validD (strL s) && allR may 0 (strL s)) w) := by
  have hv := Tryd.utf8_ValidString s w (by omega) hG
  cases hr : validD (strL s) with
  | false =>
    have hv2 : Calls Tryd.prog 22 #[.string s] w (BoolIs false w) := hv.mono (by rintro e w' ⟨rfl, hb⟩; exact ⟨by rw [show validD s.data.toList = false from hr], hb⟩)
    have HV := Aside0.mk hv2
    clear hv hr hv2 hG hF
    go_enter Tryd.func28, Tryd.ntmps28
    go_wp2_with (go_at_call 22; ((with_reducible refine (HV.out).mono ?_); rintro e w1 ⟨rfl, hb1⟩); have HB1 := Aside0.mk hb1; clear hb1)
    go_ret
    exact ⟨rfl, HB1.out⟩
  | true =>
    have hv2 : Calls Tryd.prog 22 #[.string s] w (BoolIs true w) := hv.mono (by rintro e w' ⟨rfl, hb⟩; exact ⟨by rw [show validD s.data.toList = true from hr], hb⟩)
    have HV := Aside0.mk hv2
    rw [Bool.true_and]
    obtain ⟨ANS, hA⟩ : ∃ ANS, allR may 0 (strL s) = ANS := ⟨_, rfl⟩
    rw [hA]
    have H0 : Aside0 (allR may 0 ((strL s).drop 0) = ANS) := ⟨hA⟩
    have HF := Aside0.mk hF
    clear hv hr hv2 hG hF hA
    go_enter Tryd.func28, Tryd.ntmps28
    go_wp2_with (go_at_call 22; ((with_reducible refine (HV.out).mono ?_); rintro e w1 ⟨rfl, hb1⟩); have HB1 := Aside0.mk hb1; clear hb1)
    go_loopw [] (fun wr => ∃ (p : Nat), wr.heap[w1.heap.size]? = some (.stringIter s p) ∧ Aside0 (allR may p ((strL s).drop p) = ANS) ∧ Below w1.heap.size w1 wr) (fun wr => s.size - wr.iterPos w1.heap.size)
    case atStart => exact ⟨0, by simpa using World.iter_heap w1 s 0, H0, by simpa [World.iter] using (Below.refl _ w1).alloc (Nat.le_refl _) _⟩
    case round =>
      obtain ⟨p, hit, hH, hbw⟩ := hrel
      have hsz : w1.heap.size < wr.heap.size := (Array.getElem?_eq_some_iff.1 hit).1
      by_cases hp : p < s.size
      · have hnx : ∀ ty, (Instr.next (.pointer (some ⟨w1.heap.size, 0, none⟩)) true ty).run Tryd.prog wr = _ := fun ty => Lib.run_next_any_at wr w1.heap.size s p ty hit hp
        have hit2 := Lib.iterAt_heap wr w1.heap.size s p (p + (Utf8.decode s p).2) hit
        have hbw2 := Lib.below_iterAt hbw (k := w1.heap.size) (by omega) s (p + (Utf8.decode s p).2)
        have hw := wid_pos ((strL s).drop p)
        rw [← (dec_at s p).1] at hw
        have hmay := HF.out p (Utf8.decode s p).1 (wr.iterAt w1.heap.size s (p + (Utf8.decode s p).2)) (by omega) (by rw [(dec_at s p).2]; exact rune_le2 _)
        have hstep : (may p (Utf8.decode s p).1 && allR may (p + (Utf8.decode s p).2) ((strL s).drop (p + (Utf8.decode s p).2))) = ANS := by
          rw [(dec_at s p).1, (dec_at s p).2, ← List.drop_drop, ← allR_step may p _ (drop_ne hp)]
          exact hH.out
        have hms : ∀ n, s.size - ((wr.iterAt w1.heap.size s (p + (Utf8.decode s p).2)).drewN n).iterPos w1.heap.size < s.size - wr.iterPos w1.heap.size := by
          intro n
          have e1 : ((wr.iterAt w1.heap.size s (p + (Utf8.decode s p).2)).drewN n).iterPos w1.heap.size = p + (Utf8.decode s p).2 := by simp [World.iterPos, hit2]
          have e2 : wr.iterPos w1.heap.size = p := by simp [World.iterPos, hit]
          rw [e1, e2]
          omega
        have HM := Aside0.mk hms
        cases hm : may p (Utf8.decode s p).1 with
        | true =>
          rw [hm] at hmay hstep
          rw [Bool.true_and] at hstep
          have HMAY := Aside0.mk hmay
          have H2 := Aside0.mk hstep
          clear hmay hstep hms hm hH
          go_wp2_with (go_at_call 31; ((with_reducible refine (HMAY.out).mono ?_); rintro e w' ⟨rfl, ⟨n, rfl⟩⟩))
          go_roundw
          case rel => exact ⟨_, hit2, H2, pw_below_drewN hbw2 n⟩
          case measure => exact HM.out n
        | false =>
          rw [hm] at hmay hstep
          rw [Bool.false_and] at hstep
          subst hstep
          have HMAY := Aside0.mk hmay
          clear hmay hms hm hH
          go_wp2_with (go_at_call 31; ((with_reducible refine (HMAY.out).mono ?_); rintro e w' ⟨rfl, ⟨n, rfl⟩⟩))
          go_ret
          exact ⟨rfl, below_step HB1.out (pw_below_drewN hbw2 n)⟩
      · have hnx : ∀ ty, (Instr.next (.pointer (some ⟨w1.heap.size, 0, none⟩)) true ty).run Tryd.prog wr = _ := fun ty => Lib.run_next_end_at wr w1.heap.size s p ty hit hp
        have hans : ANS = true := by rw [← hH.out, drop_end hp, allR_nil]
        subst hans
        clear hH
        go_wp2
        go_ret
        exact ⟨rfl, below_step HB1.out hbw⟩
end Go.Proofs.YtlehjehnapjioaaDoor.E
