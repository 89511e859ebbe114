/- The contracts of hexa.Text and hexa.Bytes, typed by hand, in the form of the printed ones. -/
import Derived.Test.YtmepclalglmleaaF37
import Derived.Test.YtmepclalglmleaaBld
import Derived.Lib.OthersKept
import Derived.WalkSmall
namespace Go.Proofs.Ytmepclalglmleaa.E
open Go.RowKit Go.Proofs.YtmepclalglmleaaW.PrintWords Go.Proofs.YtmepclalglmleaaW.PrintLast Go.Proofs.YtmepclalglmleaaW.PrintMore Go.Proofs.Ytmepclalglmleaa.Pr
set_option linter.unusedVariables false
set_option linter.unusedSimpArgs false

/-- A digit's sign. -/
def dg (c : Int) : Int := if c < 10 then 48 + c else 87 + c
def hexL (l : List Int) : List Int := l.flatMap fun c => [dg (c / 16), dg (c % 16)]
def toB (l : List Int) : List UInt8 := l.map fun c => UInt8.ofNat c.toNat
theorem dg_range {c : Int} (h0 : 0 ≤ c) (h1 : c < 16) : 0 ≤ dg c ∧ dg c ≤ 255 := by unfold dg; split <;> omega
theorem sixteen (P : Int → Prop) (h : ∀ m : Fin 16, P (m.val : Int)) {n : Int} (h0 : 0 ≤ n) (h1 : n < 16) : P n := by
  have := h ⟨n.toNat, by omega⟩
  simpa [Int.toNat_of_nonneg h0] using this
theorem dg_at : ∀ (n : Int) (h0 : 0 ≤ n) (h1 : n < 16), ∀ (h : n.toNat < (⟨#[48, 49, 50, 51, 52, 53, 54, 55, 56, 57, 97, 98, 99, 100, 101, 102]⟩ : ByteArray).size), (((⟨#[48, 49, 50, 51, 52, 53, 54, 55, 56, 57, 97, 98, 99, 100, 101, 102]⟩ : ByteArray)[n.toNat]'h).toNat : Int) = dg n := by
  intro n h0 h1
  refine sixteen (fun n => ∀ h : n.toNat < (⟨#[48, 49, 50, 51, 52, 53, 54, 55, 56, 57, 97, 98, 99, 100, 101, 102]⟩ : ByteArray).size, (((⟨#[48, 49, 50, 51, 52, 53, 54, 55, 56, 57, 97, 98, 99, 100, 101, 102]⟩ : ByteArray)[n.toNat]'h).toNat : Int) = dg n) ?_ h0 h1
  decide
theorem cells_step (l : List Int) (y : Int) (h0 : 0 ≤ y) (h1 : y ≤ 255) : Lib.byteCells (toB (l ++ [y])) = Lib.byteCells (toB l) ++ [.int .u8 y] := by
  simp only [toB, List.map_append, List.map_cons, List.map_nil, Lib.byteCells]
  congr 3
  simp
  omega
theorem hexL_step (l : List Int) (k : Nat) (h : k < l.length) : hexL (l.take (k + 1)) = hexL (l.take k) ++ [dg (rd l k / 16)] ++ [dg (rd l k % 16)] := by
  have : l.take (k + 1) = l.take k ++ [rd l k] := by
    rw [List.take_succ_eq_append_getElem h]; simp [rd, List.getD_eq_getElem?_getD, h]
  rw [this]; simp [hexL]
theorem hexL_length (l : List Int) : (hexL l).length = 2 * l.length := by
  induction l with
  | nil => rfl
  | cons a l ih => simp [hexL] at ih ⊢; omega
theorem toB_length (l : List Int) : (toB l).length = l.length := by simp [toB]

set_option maxHeartbeats 2000000 in
set_option maxRecDepth 100000 in
theorem text_any (A0 : Option Addr) (c0 : Nat) (l0 : List Int) (w : World) (hr0 : Kd.C (Kd.int .u8) w A0 l0.length l0) (hc0 : l0.length ≤ c0) (hall : ∀ x ∈ l0, 0 ≤ x ∧ x ≤ 255) (hlen : l0.length ≤ 70368744177664) :
    Calls Try.prog 16 #[.slice A0 l0.length c0] w fun e w' => e = .returned (.string ⟨(toB (hexL l0)).toArray⟩) ∧ Below w.heap.size w w' := by
  have HR0 := Aside0.mk hr0
  have HA := Aside0.mk hall
  clear hr0 hall
  go_enter Try.func16, Try.ntmps16
  go_wp2
  go_loopw [8] (fun v8 wr => ∃ (k : Nat), k ≤ l0.length ∧ v8 = .int .i64 k ∧ Lib.IsBuilderF 62 5 w.heap.size w.heap.size (Lib.byteCells (toB (hexL (l0.take k)))) wr ∧ Below w.heap.size w wr) (fun v8 _ => l0.length - (intOf v8).toNat)
  case atStart => 
    refine ⟨0, Nat.zero_le _, rfl, (Lib.IsBuilderF.of (Lib.fresh_isBuilder 62 5 w)), (Below.refl _ w).alloc (Nat.le_refl _) _⟩
  case round =>
    obtain ⟨k, hk, rfl, hI, hbw⟩ := hrel
    by_cases hp : k < l0.length
    · obtain ⟨ad, rfl, hx⟩ := Kd.at_int (Kd.C_below HR0.out hbw) (k : Int) (by omega) (by omega)
      have hx' : wr.cell? (ad.add k) = some (.int .u8 (rd l0 k)) := by simpa using hx
      obtain ⟨x, ex⟩ : ∃ x, x = rd l0 k := ⟨_, rfl⟩
      rw [← ex] at hx'
      have hx0 : 0 ≤ x ∧ x ≤ 255 := by
        rw [ex]; apply HA.out; simp [rd, List.getD_eq_getElem?_getD, hp]
      clear hx
      have EX := Aside0.mk ex
      clear ex
      obtain ⟨h0, h1⟩ := hx0
      have hsz := hbw.size
      have hln : (hexL (l0.take k)).length ≤ 2 * k := by rw [hexL_length, List.length_take]; omega
      go_wp2_with (go_at_call 35; refine (write_k w.heap.size w.heap.size _ _ _ hI (by rw [Lib.byteCells_length, toB_length]; omega) hsz).mono ?_)
      rintro e W1 ⟨rfl, h1, b1, -⟩
      have hsz1 : w.heap.size ≤ W1.heap.size := by have := b1.size; omega
      have h2 := Aside0.mk h1
      clear h1
      go_wp2_with (go_at_call 35; refine (write_k w.heap.size w.heap.size _ _ _ (Or.inr h2.out) (by rw [List.length_append, Lib.byteCells_length, toB_length]; simp; omega) hsz1).mono ?_)
      rintro e W2 ⟨rfl, h3, b2, -⟩
      rw [dg_at _ (by omega) (by omega), dg_at _ (by omega) (by omega)] at h3
      have r1 := dg_range (c := x / 16) (by omega) (by omega)
      have r2 := dg_range (c := x % 16) (by omega) (by omega)
      have h4 : Lib.IsBuilderF 62 5 w.heap.size w.heap.size (Lib.byteCells (toB (hexL (l0.take (k + 1))))) W2 := by
        rw [hexL_step l0 k hp, cells_step _ _ (by rw [← EX.out]; omega) (by rw [← EX.out]; omega), cells_step _ _ (by rw [← EX.out]; omega) (by rw [← EX.out]; omega), ← EX.out]
        exact .inr h3
      have h5 := Aside0.mk h4
      clear h4 h3 h2 hI
      go_wp2
      go_roundw
      case rel => exact ⟨k + 1, by omega, by go_num, h5.out, (hbw.trans b1).trans b2⟩
      case measure => simp [intOf]; omega
    · obtain rfl : k = l0.length := by omega
      have hsz := hbw.size
      rw [List.take_length] at hI
      go_wp2_with (go_at_call 36; refine (Try.Builder_String_any_k w.heap.size w.heap.size _ _ hI hsz).mono ?_)
      rintro e W1 ⟨rfl, -, b1, -⟩
      go_wp2
      go_ret
      exact ⟨rfl, hbw.trans b1⟩
def hexa_Text.f (l0 : List Int) : Option ByteArray := if (∀ x ∈ l0, 0 ≤ x ∧ x ≤ 255) ∧ l0.length ≤ 70368744177664 then some ⟨(toB (hexL l0)).toArray⟩ else none
theorem hexa_Text.calls (A0 : Option Addr) (c0 : Nat) (l0 : List Int) (r : ByteArray) (w : World) (hr0 : Kd.C (Kd.int .u8) w A0 l0.length l0) (hc0 : l0.length ≤ c0) (h : hexa_Text.f l0 = some r) :
    Calls Try.prog 16 #[.slice A0 l0.length c0] w fun e w' => e = .returned (.string r) ∧ Below w.heap.size w w' := by
  unfold hexa_Text.f at h
  split at h
  · rename_i h2
    injection h with h
    subst h
    exact text_any A0 c0 l0 w hr0 hc0 h2.1 h2.2
  · cases h

/-- What a sign means; below nought: nothing. -/
def hv (c : Int) : Int := if 48 ≤ c ∧ c ≤ 57 then c - 48 else if 97 ≤ c ∧ c ≤ 102 then c - 87 else -1
theorem hv_range (c : Int) : -1 ≤ hv c ∧ hv c ≤ 15 := by unfold hv; split; omega; split <;> omega
theorem hv_ascii (c : Int) (h : 0 ≤ hv c) : 0 ≤ c ∧ c < 128 := by unfold hv at h; split at h; omega; split at h <;> omega
theorem half_yes (r : Int) (w : World) (h : 0 ≤ hv r) :
    Calls Try.prog 37 #[.int .i32 r] w fun e w' => e = .returned (.tuple #[.int .u8 (hv r), .bool true]) ∧ Drawn0 w w' := by
  refine hexa_half.calls 1 r _ _ w ?_
  unfold hv at h
  unfold hexa_half.f hexa_half.j0
  by_cases h1 : 48 ≤ r ∧ r ≤ 57
  · rw [if_pos h1.1]; simp [h1, hv, wrap32]; omega
  · rw [if_neg h1] at h
    by_cases h2 : 97 ≤ r ∧ r ≤ 102
    · have h3 : ¬ r ≤ 57 := by omega
      rw [if_pos (by omega)]; simp [h1, h2, h3, hv, wrap32]; omega
    · rw [if_neg h2] at h; omega
theorem half_no (r : Int) (w : World) (h : hv r < 0) :
    Calls Try.prog 37 #[.int .i32 r] w fun e w' => e = .returned (.tuple #[.int .u8 0, .bool false]) ∧ Drawn0 w w' := by
  refine hexa_half.calls 1 r _ _ w ?_
  unfold hv at h
  unfold hexa_half.f hexa_half.j0
  by_cases h1 : 48 ≤ r ∧ r ≤ 57
  · rw [if_pos h1] at h; omega
  · rw [if_neg h1] at h
    by_cases h2 : 97 ≤ r ∧ r ≤ 102
    · rw [if_pos h2] at h; omega
    · split
      · have : ¬ r ≤ 57 := by omega
        simp [this]; omega
      · simp; omega
/-- Two signs are one byte. -/
def pairs : List Int → List Int
  | a :: b :: l => (16 * hv a + hv b) :: pairs l
  | _ => []
theorem pairs_append : ∀ (l m : List Int), l.length % 2 = 0 → pairs (l ++ m) = pairs l ++ pairs m
  | [], m, _ => rfl
  | [a], m, h => by simp at h
  | a :: b :: l, m, h => by
    show pairs (a :: b :: (l ++ m)) = _
    simp only [pairs, List.cons_append]
    rw [pairs_append l m (by simp at h; omega)]
theorem pairs_length : ∀ (l : List Int), (pairs l).length = l.length / 2
  | [] => rfl
  | [a] => by simp [pairs]
  | a :: b :: l => by simp only [pairs, List.length_cons]; rw [pairs_length l]; omega
def hexa_Bytes.f (s : ByteArray) : Option (List Int × Bool) :=
  if s.size ≤ 140737488351232 then some (if (bytesOf s).all (fun c => decide (0 ≤ hv c)) = true ∧ s.size % 2 = 0 then (pairs (bytesOf s), true) else ([], false)) else none
theorem or16 : ∀ a b : Fin 16, bits BinOp.or .u8 ((a.val : Int) * 16 % 256) (b.val : Int) = 16 * (a.val : Int) + (b.val : Int) := by decide +kernel
theorem or16' (a b : Int) (ha : 0 ≤ a) (ha2 : a < 16) (hb : 0 ≤ b) (hb2 : b < 16) : bits BinOp.or .u8 (a * 16 % 256) b = 16 * a + b := by
  have := or16 ⟨a.toNat, by omega⟩ ⟨b.toNat, by omega⟩
  simpa [Int.toNat_of_nonneg ha, Int.toNat_of_nonneg hb] using this
/-- Where the rune's value is a digit's, it is a byte's own. -/
theorem decode_hv (s : ByteArray) (k : Nat) (hp : k < s.size) : (0 ≤ hv (Utf8.decode s k).1 ∧ 0 ≤ hv (bt s k) ∧ ((Utf8.decode s k).1 : Int) = bt s k ∧ (Utf8.decode s k).2 = 1) ∨ (hv (Utf8.decode s k).1 < 0 ∧ hv (bt s k) < 0) := by
  have hb : bt s k = ((s[k]'hp).toNat : Int) := by simp [bt, hp]
  by_cases ha : (s[k]'hp).toNat < 128
  · rw [decode_ascii s k hp ha]
    simp only [hb]
    by_cases h : 0 ≤ hv ((s[k]'hp).toNat : Int)
    · exact .inl ⟨h, h, trivial, trivial⟩
    · exact .inr ⟨by omega, by omega⟩
  · refine .inr ⟨?_, ?_⟩
    · have := (decode_high s k hp (by omega)).1
      rcases Int.lt_or_le (hv (Utf8.decode s k).1) 0 with h | h
      · exact h
      · have := hv_ascii _ h; omega
    · rcases Int.lt_or_le (hv (bt s k)) 0 with h | h
      · exact h
      · have := hv_ascii _ h; omega
theorem rd_bytes (s : ByteArray) (k : Nat) (h : k < s.size) : (bytesOf s).take (k + 1) = (bytesOf s).take k ++ [bt s k] := by
  have hl : k < (bytesOf s).length := by rw [bytesOf_length]; exact h
  rw [List.take_succ_eq_append_getElem hl, ← rd_bytesOf]
  simp [rd, List.getD_eq_getElem?_getD, hl]
/-- What the loop has done behind k signs. -/
structure HB (s : ByteArray) (k : Nat) (up : Int) (odd : Bool) (out : List Int) : Prop where
  hex : ∀ c ∈ (bytesOf s).take k, 0 ≤ hv c
  le : k ≤ s.size
  odd' : odd = decide (k % 2 = 1)
  upr : 0 ≤ up ∧ up < 16
  upl : k % 2 = 1 → (bytesOf s).take k = (bytesOf s).take (k - 1) ++ [bt s (k - 1 : Nat)] ∧ up = hv (bt s (k - 1 : Nat))
  out' : out = pairs ((bytesOf s).take (k - k % 2))
theorem HB.start (s : ByteArray) : HB s 0 0 false [] := ⟨by simp, Nat.zero_le _, rfl, by omega, by simp, by simp [pairs]⟩
theorem HB.even {s : ByteArray} {k : Nat} {up : Int} {out : List Int} (h : HB s k up false out) (hp : k < s.size) (hh : 0 ≤ hv (bt s k)) : HB s (k + 1) (hv (bt s k)) true out := by
  have he : k % 2 = 0 := by have := h.odd'; simp at this; omega
  have hr := hv_range (bt s k)
  refine ⟨?_, hp, by simp; omega, by omega, ?_, ?_⟩
  · intro c hc
    rw [rd_bytes s k hp] at hc
    rcases List.mem_append.1 hc with hc | hc
    · exact h.hex c hc
    · simp at hc; subst hc; exact hh
  · intro _
    refine ⟨?_, rfl⟩
    exact rd_bytes s k hp
  · have e1 : k + 1 - (k + 1) % 2 = k - k % 2 := by omega
    rw [e1]; exact h.out'
theorem HB.odds {s : ByteArray} {k : Nat} {up : Int} {out : List Int} (h : HB s k up true out) (hp : k < s.size) (hh : 0 ≤ hv (bt s k)) : HB s (k + 1) (hv (bt s k)) false (out ++ [16 * up + hv (bt s k)]) := by
  have he : k % 2 = 1 := by have := h.odd'; simp at this; omega
  have hr := hv_range (bt s k)
  refine ⟨?_, hp, by simp; omega, by omega, by omega, ?_⟩
  · intro c hc
    rw [rd_bytes s k hp] at hc
    rcases List.mem_append.1 hc with hc | hc
    · exact h.hex c hc
    · simp at hc; subst hc; exact hh
  · have e1 : k + 1 - (k + 1) % 2 = k + 1 := by omega
    have e2 : k - k % 2 = k - 1 := by omega
    obtain ⟨h1, h2⟩ := h.upl he
    rw [e1, rd_bytes s k hp, h1, h.out', e2, List.append_assoc, pairs_append _ _ (by rw [List.length_take, bytesOf_length]; omega), h2]
    rfl
theorem info5 : (Try.prog.info? 5).map (fun i => (i.zero, i.size, i.bytes)) = some (some (.int .u8 0), 1, 1) := by kernel_rfl
set_option maxHeartbeats 2000000 in
set_option maxRecDepth 100000 in
theorem hexa_Bytes.calls (s : ByteArray) (r1 : List Int) (r2 : Bool) (w : World) (h : hexa_Bytes.f s = some (r1, r2)) :
    Calls Try.prog 17 #[.string s] w fun e w' => ∃ v0_ : Value, e = .returned (.tuple #[v0_, .bool r2]) ∧ Kd.R (Kd.int .u8) 5 w' w.heap.size (fun _ => True) v0_ r1 ∧ Below w.heap.size w w' := by
  unfold hexa_Bytes.f at h
  have hs : s.size ≤ 140737488351232 := by
    rcases Nat.lt_or_ge 140737488351232 s.size with h' | h'
    · rw [if_neg (by omega)] at h; cases h
    · exact h'
  rw [if_pos hs] at h
  have HH := Aside0.mk h
  clear h
  obtain ⟨i0, hi, hz0, hz1, hz2⟩ := info_parts info5
  go_enter Try.func17, Try.ntmps17
  go_wp2
  go_loopw [4, 5, 6] (fun v4 v5 v6 wr => ∃ (k : Nat) (up : Int) (odd : Bool) (out : List Int), wr.heap[w.heap.size]? = some (.stringIter s k) ∧ wr.ownsRow (w.heap.size + 1) 5 1 v4 out.length (nums .u8 out) ∧ v5 = .int .u8 up ∧ v6 = .bool odd ∧ Aside0 (HB s k up odd out) ∧ Below w.heap.size w wr) (fun _ _ _ wr => s.size - wr.iterPos w.heap.size)
  case atStart =>
    exact ⟨0, 0, false, [], by simpa using World.iter_heap w s 0, own_nil _ _ _ _, rfl, rfl, ⟨HB.start s⟩, by simpa [World.iter] using (Below.refl _ w).alloc (Nat.le_refl _) _⟩
  case round =>
    obtain ⟨k, up, odd, out, hit, hown, rfl, rfl, hH, hbw⟩ := hrel
    have hsz : w.heap.size < wr.heap.size := (Array.getElem?_eq_some_iff.1 hit).1
    by_cases hp : k < s.size
    · have hnx : ∀ ty, (Instr.next (.pointer (some ⟨w.heap.size, 0, none⟩)) true ty).run Try.prog wr = _ := fun ty => Lib.run_next_any_at wr w.heap.size s k ty hit hp
      have hd1 := decode_le s k
      rcases decode_hv s k hp with ⟨hh, hb, hd, hd2⟩ | ⟨hh, hb⟩
      · rw [hd2] at hnx
        have hit2 := Lib.iterAt_heap wr w.heap.size s k (k + 1) hit
        have hbw2 := Lib.below_iterAt hbw (k := w.heap.size) (by omega) s (k + 1)
        have hsz2 : (wr.iterAt w.heap.size s (k + 1)).heap.size = wr.heap.size := Lib.iterAt_size ..
        have hown2 := ownsRow_iterAt hown (k := w.heap.size) (by omega) s (k + 1)
        cases odd with
        | false =>
          have H2 := Aside0.mk (HB.even hH.out hp hb)
          rw [hd] at hh hnx
          clear hd hd2 hown hH
          go_wp2_with (go_at_call 37; refine (half_yes _ _ hh).mono ?_; rintro e w' ⟨rfl, ⟨n, rfl⟩⟩)
          go_roundw
          case rel => exact ⟨k + 1, _, true, out, hit2, pw_own_below hown2 (pw_below_drewN (Below.refl _ _) n), rfl, rfl, H2, pw_below_drewN hbw2 n⟩
          case measure =>
            have e1 : ((wr.iterAt w.heap.size s (k + 1)).drewN n).iterPos w.heap.size = k + 1 := by simp [World.iterPos, hit2]
            have e2 : wr.iterPos w.heap.size = k := by simp [World.iterPos, hit]
            rw [e1, e2]; omega
        | true =>
          have H2 := Aside0.mk (HB.odds hH.out hp hb)
          have ho := or16' up (hv (bt s k)) hH.out.upr.1 hH.out.upr.2 hb (by have := hv_range (bt s k); omega)
          rw [hd] at hh hnx
          have hlen : out.length ≤ s.size := by rw [hH.out.out', pairs_length, List.length_take, bytesOf_length]; omega
          clear hd hd2 hown hH
          go_wp2_with (first | (go_at_call 37; refine (half_yes _ _ hh).mono ?_; rintro e w' ⟨rfl, ⟨n, rfl⟩⟩) | (at_builtin; refine wpList_append_own _ rfl _ _ 22 rfl (w.heap.size + 1) 5 i0 (.int .u8 0) 1 1 Try.underlying22 hi hz0 hz1 hz2 rfl (by decide) _ _ _ rfl ((pw_own_below hown2 (pw_below_drewN (Below.refl _ _) n)).alloc _) ⟨wr.heap.size, 0, none⟩ 1 1 [.int .u8 (16 * up + hv (bt s k))] rfl rfl ?c1 ?c2 ?c3 ?c4 ?c5 ?_))
          case c1 =>
            intro j u hj
            have h9 := cell_one_new ((wr.iterAt w.heap.size s (k + 1)).drewN n) (.int .u8 (16 * up + hv (bt s k))) 5 j u hj
            rw [show ((wr.iterAt w.heap.size s (k + 1)).drewN n).heap.size = wr.heap.size from hsz2] at h9
            exact h9
          case c2 => intro u hu; simp at hu; subst hu; rfl
          case c3 => unfold maxLen; omega
          case c4 => omega
          case c5 => simp; omega
          intro v1 w2 hown1 hgrow _
          have hown3 : w2.ownsRow (w.heap.size + 1) 5 1 v1 (out ++ [16 * up + hv (bt s k)]).length (nums .u8 (out ++ [16 * up + hv (bt s k)])) := by simpa [nums] using hown1
          have hit3 : w2.heap[w.heap.size]? = some (.stringIter s (k + 1)) := by
            rw [hgrow.block w.heap.size (by simp; omega) (fun e => by have := own_base hown2 w.heap.size e.symm; omega), Lib.alloc_old _ _ _ (by show w.heap.size < (wr.iterAt w.heap.size s (k + 1)).heap.size; omega)]
            exact hit2
          have hbw3 : Below w.heap.size w w2 := ((pw_below_drewN hbw2 n).alloc (by show w.heap.size ≤ (wr.iterAt w.heap.size s (k + 1)).heap.size; omega) _).grown hgrow (by simp; omega) (fun b e => by have := own_base hown2 b e; omega)
          clear hown1 hgrow hown2
          obtain ⟨A1, cc, rfl⟩ := own_slice hown3
          go_wp2
          go_roundw
          case rel => exact ⟨k + 1, _, false, _, hit3, hown3, rfl, rfl, H2, hbw3⟩
          case measure =>
            have e1 : w2.iterPos w.heap.size = k + 1 := by simp [World.iterPos, hit3]
            have e2 : wr.iterPos w.heap.size = k := by simp [World.iterPos, hit]
            rw [e1, e2]; omega
      · have hbw2 := Lib.below_iterAt hbw (k := w.heap.size) (by omega) s (k + (Utf8.decode s k).2)
        have hr : r1 = [] ∧ r2 = false := by
          have h0 := HH.out
          have hn : ¬ (bytesOf s).all (fun c => decide (0 ≤ hv c)) = true := by
            intro ha
            have := List.all_eq_true.1 ha (bt s k) (by
              have h1 : k < (bytesOf s).length := by rw [bytesOf_length]; exact hp
              rw [← rd_bytesOf]; simp [rd, List.getD_eq_getElem?_getD, h1])
            simp at this; omega
          rw [if_neg (fun h => hn h.1)] at h0
          simpa [eq_comm] using h0
        obtain ⟨rfl, rfl⟩ := hr
        clear hown hH HH hit
        go_wp2_with (go_at_call 37; refine (half_no _ _ hh).mono ?_; rintro e w' ⟨rfl, ⟨n, rfl⟩⟩)
        go_ret2
        exact ⟨_, rfl, Kd.R_nil _ _ _ _ _, pw_below_drewN hbw2 n⟩
    · have hnx : ∀ ty, (Instr.next (.pointer (some ⟨w.heap.size, 0, none⟩)) true ty).run Try.prog wr = _ := fun ty => Lib.run_next_end_at wr w.heap.size s k ty hit hp
      obtain rfl : k = s.size := by have := hH.out.le; omega
      have hT := hH.out.hex
      rw [List.take_of_length_le (by rw [bytesOf_length]; exact Nat.le_refl _)] at hT
      have hall : (bytesOf s).all (fun c => decide (0 ≤ hv c)) = true := by rw [List.all_eq_true]; intro c hc; simpa using hT c hc
      have hodd := hH.out.odd'
      have hout := hH.out.out'
      clear hT hH
      obtain ⟨A1, cc, rfl⟩ := own_slice hown
      cases odd with
      | true =>
        have hr : r1 = [] ∧ r2 = false := by
          have h0 := HH.out
          rw [if_neg (fun h => by simp at hodd; omega)] at h0
          simpa [eq_comm] using h0
        obtain ⟨rfl, rfl⟩ := hr
        clear hodd hout hown HH hall hit
        go_wp2
        go_ret2
        exact ⟨_, rfl, Kd.R_nil _ _ _ _ _, hbw⟩
      | false =>
        have hz : s.size % 2 = 0 := by simp at hodd; omega
        have hr : r1 = out ∧ r2 = true := by
          have h0 := HH.out
          rw [if_pos ⟨hall, hz⟩] at h0
          rw [hz, Nat.sub_zero, List.take_of_length_le (by rw [bytesOf_length]; exact Nat.le_refl _)] at hout
          rw [hout]
          simpa [eq_comm] using h0
        obtain ⟨rfl, rfl⟩ := hr
        have hR : Kd.R (Kd.int .u8) 5 wr w.heap.size (fun _ => True) (.slice A1 r1.length cc) r1 := Kd.R_lower (Kd.R_of_own hown (fun _ _ => trivial)) (Nat.le_succ _)
        clear hodd hout hown HH hall hz hit
        go_wp2
        go_ret2
        exact ⟨_, rfl, hR, hbw⟩
attribute [local go_sem] max2_int min2_int max_two min_two max_three min_three max_four min_four
theorem bapp (a b : List UInt8) : (⟨a.toArray⟩ : ByteArray) ++ ⟨b.toArray⟩ = ⟨(a ++ b).toArray⟩ := by
  apply ByteArray.ext
  rw [ByteArray.data_append]
  simp
theorem dig_ext : ∀ (n : Int) (h0 : 0 ≤ n) (h1 : n < 16), ((⟨#[48, 49, 50, 51, 52, 53, 54, 55, 56, 57, 97, 98, 99, 100, 101, 102]⟩ : ByteArray).extract n.toNat (n + 1).toNat) = ⟨[UInt8.ofNat (dg n).toNat].toArray⟩ := by
  intro n h0 h1
  refine sixteen (fun n => ((⟨#[48, 49, 50, 51, 52, 53, 54, 55, 56, 57, 97, 98, 99, 100, 101, 102]⟩ : ByteArray).extract n.toNat (n + 1).toNat) = ⟨[UInt8.ofNat (dg n).toNat].toArray⟩) ?_ h0 h1
  decide
theorem toB_append (l m : List Int) : toB (l ++ m) = toB l ++ toB m := by simp [toB]
theorem text_step (l : List Int) (k : Nat) (h : k < l.length) (a b : Int) (ha : a = rd l k / 16) (hb : b = rd l k % 16) (h0 : 0 ≤ rd l k) (h1 : rd l k ≤ 255) :
    (⟨(toB (hexL (l.take k))).toArray⟩ : ByteArray) ++ (⟨#[48, 49, 50, 51, 52, 53, 54, 55, 56, 57, 97, 98, 99, 100, 101, 102]⟩ : ByteArray).extract a.toNat (a + 1).toNat ++ (⟨#[48, 49, 50, 51, 52, 53, 54, 55, 56, 57, 97, 98, 99, 100, 101, 102]⟩ : ByteArray).extract b.toNat (b + 1).toNat = ⟨(toB (hexL (l.take (k + 1)))).toArray⟩ := by
  rw [dig_ext a (by omega) (by omega), dig_ext b (by omega) (by omega), bapp, bapp, hexL_step l k h, toB_append, toB_append, ha, hb]
  rfl
set_option maxHeartbeats 2000000 in
set_option maxRecDepth 100000 in
theorem wicketmanref05_Text.any (A0 : Option Addr) (c0 : Nat) (l0 : List Int) (w : World) (hr0 : Kd.C (Kd.int .u8) w A0 l0.length l0) (hc0 : l0.length ≤ c0) (hall : ∀ x ∈ l0, 0 ≤ x ∧ x ≤ 255) (hlen : l0.length ≤ 70368744177664) :
    Calls Try.prog 18 #[.slice A0 l0.length c0] w fun e w' => e = .returned (.string ⟨(toB (hexL l0)).toArray⟩) ∧ Drawn0 w w' := by
  have HR0 := Aside0.mk hr0
  have HA := Aside0.mk hall
  clear hr0 hall
  go_enter Try.func18, Try.ntmps18
  go_wp2
  go_loopg [3, 4] (l0.length) (fun gk v3 v4 w' => ∃ (k : Nat), k ≤ l0.length ∧ v4 = .int .i64 k ∧ v3 = .string ⟨(toB (hexL (l0.take k))).toArray⟩ ∧ Aside0 (k + gk = l0.length) ∧ Drawn0 w w')
  case atStart => 
    exact ⟨0, Nat.zero_le _, rfl, rfl, ⟨by omega⟩, Drawn0.refl _⟩
  case round =>
    obtain ⟨k, hk, rfl, rfl, hgk, ⟨m1, rfl⟩⟩ := hrel
    by_cases hp : k < l0.length
    · obtain ⟨ad, rfl, hx⟩ := Kd.at_int (Kd.C_below HR0.out (pw_below_drewN (Below.refl _ w) m1)) (k : Int) (by omega) (by omega)
      have hx' : w.cell? (ad.add k) = some (.int .u8 (rd l0 k)) := by simpa using hx
      obtain ⟨x, ex⟩ : ∃ x, x = rd l0 k := ⟨_, rfl⟩
      rw [← ex] at hx'
      have hx0 : 0 ≤ x ∧ x ≤ 255 := by
        rw [ex]; apply HA.out; simp [rd, List.getD_eq_getElem?_getD, hp]
      clear hx
      have EX := Aside0.mk ex
      clear ex
      obtain ⟨h0, h1⟩ := hx0
      obtain ⟨S, hS⟩ : ∃ S, S = (⟨(toB (hexL (l0.take k))).toArray⟩ : ByteArray) := ⟨_, rfl⟩
      have hln : S.size ≤ 140737488355328 := by
        rw [hS]; show (toB (hexL (l0.take k))).toArray.size ≤ _; rw [List.size_toArray, toB_length, hexL_length, List.length_take]; omega
      rw [← hS]
      have HS := Aside0.mk hS
      clear hS
      obtain ⟨a, ea, ha0, ha1, ea2⟩ : ∃ a : Int, IntKind.u8.wrap (x.tdiv 16) = a ∧ 0 ≤ a ∧ a < 16 ∧ a = x / 16 := by
        refine ⟨x / 16, ?_, by omega, by omega, rfl⟩
        rw [Int.tdiv_eq_ediv_of_nonneg h0]; show (x / 16) % 256 = _; omega
      obtain ⟨b, eb, hb0, hb1, eb2⟩ : ∃ b : Int, x.tmod 16 = b ∧ 0 ≤ b ∧ b < 16 ∧ b = x % 16 := by
        refine ⟨x % 16, ?_, by omega, by omega, rfl⟩
        rw [Int.tmod_eq_emod_of_nonneg h0]
      have eb3 : IntKind.u8.wrap b = b := by show b % 256 = _; omega
      have ea4 : IntKind.u8.wrap (a + 1) = a + 1 := by show (a + 1) % 256 = _; omega
      have eb4 : IntKind.u8.wrap (b + 1) = b + 1 := by show (b + 1) % 256 = _; omega
      have ea5 : a ≤ a + 1 := by omega
      have ea6 : a + 1 ≤ 16 := by omega
      have ea7 : 0 ≤ a + 1 := by omega
      have eb5 : b ≤ b + 1 := by omega
      have eb6 : b + 1 ≤ 16 := by omega
      have eb7 : 0 ≤ b + 1 := by omega
      have EA := Aside0.mk ea2
      have EB := Aside0.mk eb2
      clear ea2 eb2 h0 h1 ha1 hb1
      go_wp2
      go_quiet (fail)
      have hfin : S ++ (⟨#[48, 49, 50, 51, 52, 53, 54, 55, 56, 57, 97, 98, 99, 100, 101, 102]⟩ : ByteArray).extract a.toNat (a + 1).toNat ++ (⟨#[48, 49, 50, 51, 52, 53, 54, 55, 56, 57, 97, 98, 99, 100, 101, 102]⟩ : ByteArray).extract b.toNat (b + 1).toNat = ⟨(toB (hexL (l0.take (k + 1)))).toArray⟩ := by
        have hx1 : 0 ≤ rd l0 k ∧ rd l0 k ≤ 255 := by apply HA.out; simp [rd, List.getD_eq_getElem?_getD, hp]
        rw [HS.out]; exact text_step l0 k hp a b (by rw [EA.out, EX.out]) (by rw [EB.out, EX.out]) hx1.1 hx1.2
      rw [hfin]
      clear ea eb eb3 ea4 eb4 hfin
      go_wp2
      go_roundg (l0.length - (k + 1))
      case measure => have := hgk.out; omega
      case rel => exact ⟨k + 1, by omega, by go_num, rfl, ⟨by omega⟩, ⟨⟨_, rfl⟩⟩⟩
    · obtain rfl : k = l0.length := by omega
      rw [List.take_length]
      go_wp2
      go_ret
      exact ⟨rfl, ⟨⟨_, rfl⟩⟩⟩
def wicketmanref05_Text.f (l0 : List Int) : Option ByteArray := hexa_Text.f l0
theorem wicketmanref05_Text.calls (A0 : Option Addr) (c0 : Nat) (l0 : List Int) (r : ByteArray) (w : World) (hr0 : Kd.C (Kd.int .u8) w A0 l0.length l0) (hc0 : l0.length ≤ c0) (h : wicketmanref05_Text.f l0 = some r) :
    Calls Try.prog 18 #[.slice A0 l0.length c0] w fun e w' => e = .returned (.string r) ∧ Below w.heap.size w w' := by
  unfold wicketmanref05_Text.f hexa_Text.f at h
  split at h
  · rename_i h2
    injection h with h
    subst h
    exact (wicketmanref05_Text.any A0 c0 l0 w hr0 hc0 h2.1 h2.2).mono fun _ _ h => ⟨h.1, h.2.below⟩
  · cases h
end Go.Proofs.Ytmepclalglmleaa.E
