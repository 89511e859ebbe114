/- Texts, plain: how many runes; what stands in a page; what a name, a password, a note may be. -/
import Derived.Lib.MapLaws
import Derived.Lib.ValidLaws
namespace Go.Proofs.YtlehjehnapjioaaDoor.E
open Go.Lib
set_option linter.unusedVariables false
set_option linter.unusedSimpArgs false
abbrev Bs := List UInt8
/-- No rune begins there. -/
def badL (l : Bs) : Prop := (decodeL l).1 = 65533 ∧ (decodeL l).2 = 1
instance (l : Bs) : Decidable (badL l) := by unfold badL; exact inferInstance
def wid (l : Bs) : Nat := (decodeL l).2
def run1 (l : Bs) : Nat := (decodeL l).1
theorem wid_pos (l : Bs) : 1 ≤ wid l := decodeL_width l
theorem wid_le (l : Bs) (h : l ≠ []) : wid l ≤ l.length := decodeL_le l h
theorem drop_lt (l : Bs) (h : l ≠ []) : (l.drop (wid l)).length < l.length := by
  have := wid_pos l; have := List.length_pos_iff.2 h; rw [List.length_drop]; omega
theorem L_ind {P : Bs → Prop} (h0 : P []) (h1 : ∀ l, l ≠ [] → P (l.drop (wid l)) → P l) : ∀ l, P l := by
  have key : ∀ n (l : Bs), l.length ≤ n → P l := by
    intro n
    induction n with
    | zero => intro l hl; obtain rfl : l = [] := List.eq_nil_of_length_eq_zero (by omega); exact h0
    | succ n ih =>
      intro l hl
      by_cases hne : l = []
      · rw [hne]; exact h0
      · exact h1 l hne (ih _ (by have := drop_lt l hne; omega))
  exact fun l => key l.length l (Nat.le_refl _)
/-- What decoding gives: four ways, and none. -/
theorem shapeL (l : Bs) (hne : l ≠ []) :
    (badL l ∧ wid l = 1) ∨
    (¬ badL l ∧ wid l = 1 ∧ (l.getD 0 0).toNat < 128 ∧ run1 l = (l.getD 0 0).toNat) ∨
    (¬ badL l ∧ wid l = 2 ∧ 1 < l.length ∧ 192 ≤ (l.getD 0 0).toNat ∧ (l.getD 0 0).toNat / 32 = 6 ∧ (l.getD 1 0).toNat / 64 = 2 ∧ 128 ≤ run1 l ∧ run1 l = (l.getD 0 0).toNat % 32 * 64 + (l.getD 1 0).toNat % 64) ∨
    (¬ badL l ∧ wid l = 3 ∧ 2 < l.length ∧ 192 ≤ (l.getD 0 0).toNat ∧ (l.getD 0 0).toNat / 16 = 14 ∧ (l.getD 1 0).toNat / 64 = 2 ∧ (l.getD 2 0).toNat / 64 = 2 ∧ 2048 ≤ run1 l ∧ (run1 l < 55296 ∨ 57344 ≤ run1 l) ∧ run1 l = (l.getD 0 0).toNat % 16 * 4096 + (l.getD 1 0).toNat % 64 * 64 + (l.getD 2 0).toNat % 64) ∨
    (¬ badL l ∧ wid l = 4 ∧ 3 < l.length ∧ 192 ≤ (l.getD 0 0).toNat ∧ (l.getD 0 0).toNat / 8 = 30 ∧ (l.getD 1 0).toNat / 64 = 2 ∧ (l.getD 2 0).toNat / 64 = 2 ∧ (l.getD 3 0).toNat / 64 = 2 ∧ 65536 ≤ run1 l ∧ run1 l ≤ 1114111 ∧ run1 l = (l.getD 0 0).toNat % 8 * 262144 + (l.getD 1 0).toNat % 64 * 4096 + (l.getD 2 0).toNat % 64 * 64 + (l.getD 3 0).toNat % 64) := by
  unfold badL wid run1
  rw [decodeL_N]
  rcases decodeN_shape l.length (l.getD 0 0).toNat (l.getD 1 0).toNat (l.getD 2 0).toNat (l.getD 3 0).toNat with ⟨c, e⟩ | ⟨c1, c2, c3, cv, e⟩ | ⟨c1, c2, c3, c4, cv, cs, e⟩ | ⟨c1, c2, c3, c4, c5, cv, cw, e⟩ | e
  · right; left; rw [e]; exact ⟨by dsimp only; omega, rfl, c, rfl⟩
  · right; right; left; rw [e]; exact ⟨by dsimp only; omega, rfl, c2, by omega, c1, c3, cv, rfl⟩
  · right; right; right; left; rw [e]; exact ⟨by dsimp only; omega, rfl, c2, by omega, c1, c3, c4, cv, cs, rfl⟩
  · right; right; right; right; rw [e]; exact ⟨by dsimp only; omega, rfl, c2, by omega, c1, c3, c4, c5, cv, cw, rfl⟩
  · left; rw [e]; exact ⟨⟨rfl, rfl⟩, rfl⟩
theorem dN1 {n b0 b1 b2 b3 : Nat} (h : b0 < 128) : decodeN n b0 b1 b2 b3 = (b0, 1) := by unfold decodeN; rw [if_pos h]
theorem dN2 {n b0 b1 b2 b3 : Nat} (h : b0 / 32 = 6) (hn : 1 < n) (h1 : b1 / 64 = 2) (hv : 128 ≤ b0 % 32 * 64 + b1 % 64) : decodeN n b0 b1 b2 b3 = (b0 % 32 * 64 + b1 % 64, 2) := by
  unfold decodeN; rw [if_neg (by omega), if_pos ⟨h, hn, h1⟩, if_pos hv]
theorem dN3 {n b0 b1 b2 b3 : Nat} (h : b0 / 16 = 14) (hn : 2 < n) (h1 : b1 / 64 = 2) (h2 : b2 / 64 = 2) (hv : 2048 ≤ b0 % 16 * 4096 + b1 % 64 * 64 + b2 % 64) (hs : b0 % 16 * 4096 + b1 % 64 * 64 + b2 % 64 < 55296 ∨ 57344 ≤ b0 % 16 * 4096 + b1 % 64 * 64 + b2 % 64) :
    decodeN n b0 b1 b2 b3 = (b0 % 16 * 4096 + b1 % 64 * 64 + b2 % 64, 3) := by
  unfold decodeN; rw [if_neg (by omega), if_neg (by omega), if_pos ⟨h, ⟨by omega, h1⟩, hn, h2⟩, if_pos ⟨hv, by omega⟩]
theorem dN4 {n b0 b1 b2 b3 : Nat} (h : b0 / 8 = 30) (hn : 3 < n) (h1 : b1 / 64 = 2) (h2 : b2 / 64 = 2) (h3 : b3 / 64 = 2) (hv : 65536 ≤ b0 % 8 * 262144 + b1 % 64 * 4096 + b2 % 64 * 64 + b3 % 64) (hs : b0 % 8 * 262144 + b1 % 64 * 4096 + b2 % 64 * 64 + b3 % 64 ≤ 1114111) :
    decodeN n b0 b1 b2 b3 = (b0 % 8 * 262144 + b1 % 64 * 4096 + b2 % 64 * 64 + b3 % 64, 4) := by
  unfold decodeN; rw [if_neg (by omega), if_neg (by omega), if_neg (by omega), if_pos ⟨h, ⟨by omega, h1⟩, ⟨by omega, h2⟩, hn, h3⟩, if_pos ⟨hv, by omega⟩]
/-- A whole rune in front stays what it is, whatever stands behind it: of a list that agrees so far. -/
theorem dec_of (l m : Bs) (hne : l ≠ []) (hb : ¬ badL l) (hlen : wid l ≤ m.length) (hag : ∀ i, i < wid l → m.getD i 0 = l.getD i 0) : decodeL m = decodeL l := by
  rcases shapeL l hne with ⟨h, -⟩ | ⟨-, w, h0, hr⟩ | ⟨-, w, hn, -, h0, h1, hv, hr⟩ | ⟨-, w, hn, -, h0, h1, h2, hv, hs, hr⟩ | ⟨-, w, hn, -, h0, h1, h2, h3, hv, hs, hr⟩
  · exact absurd h hb
  · rw [w] at hag hlen
    rw [decodeL_N m, decodeL_N l, hag 0 (by omega), dN1 h0, dN1 h0]
  · rw [w] at hag hlen
    rw [hr] at hv
    rw [decodeL_N m, decodeL_N l, hag 0 (by omega), hag 1 (by omega), dN2 h0 hlen h1 hv, dN2 h0 hn h1 hv]
  · rw [w] at hag hlen
    rw [hr] at hv hs
    rw [decodeL_N m, decodeL_N l, hag 0 (by omega), hag 1 (by omega), hag 2 (by omega), dN3 h0 hlen h1 h2 hv hs, dN3 h0 hn h1 h2 hv hs]
  · rw [w] at hag hlen
    rw [hr] at hv hs
    rw [decodeL_N m, decodeL_N l, hag 0 (by omega), hag 1 (by omega), hag 2 (by omega), hag 3 (by omega), dN4 h0 hlen h1 h2 h3 hv hs, dN4 h0 hn h1 h2 h3 hv hs]
theorem getD_app (s t : Bs) (i : Nat) (h : i < s.length) : (s ++ t).getD i 0 = s.getD i 0 := by
  rw [List.getD_eq_getElem?_getD, List.getD_eq_getElem?_getD, List.getElem?_append_left h]
theorem dec_app (s t : Bs) (hne : s ≠ []) (hb : ¬ badL s) : decodeL (s ++ t) = decodeL s := by
  have hw := wid_le s hne
  exact dec_of s (s ++ t) hne hb (by rw [List.length_append]; omega) (fun i hi => getD_app s t i (by omega))
theorem dec_take (l r : Bs) (hne : l ≠ []) (hb : ¬ badL l) : decodeL (l.take (wid l) ++ r) = decodeL l := by
  have hw := wid_le l hne
  refine dec_of l _ hne hb (by rw [List.length_append, List.length_take]; omega) (fun i hi => ?_)
  rw [getD_app _ _ _ (by rw [List.length_take]; omega), List.getD_eq_getElem?_getD, List.getD_eq_getElem?_getD, List.getElem?_take, if_pos hi]
theorem app_ne {s t : Bs} (h : s ≠ []) : s ++ t ≠ [] := by simp [h]
/-- Before a byte that is none's no rune goes over it. -/
theorem dec_ff (s t : Bs) (hne : s ≠ []) (hb : ¬ badL (s ++ 255 :: t)) : wid (s ++ 255 :: t) ≤ s.length := by
  have hl := List.length_pos_iff.2 hne
  have hg : ∀ i, i = s.length → (s ++ 255 :: t).getD i 0 = 255 := by
    intro i hi
    rw [hi, List.getD_eq_getElem?_getD, List.getElem?_append_right (Nat.le_refl _)]
    simp
  have h255 : (255 : UInt8).toNat = 255 := rfl
  rcases shapeL _ (app_ne (t := 255 :: t) hne) with ⟨h, -⟩ | ⟨-, w, h0, hr⟩ | ⟨-, w, hn, -, h0, h1, hv, hr⟩ | ⟨-, w, hn, -, h0, h1, h2, hv, hs, hr⟩ | ⟨-, w, hn, -, h0, h1, h2, h3, hv, hs, hr⟩
  · exact absurd h hb
  · omega
  · rw [w]
    by_cases e : s.length = 1
    · rw [hg 1 e.symm, h255] at h1; omega
    · omega
  · rw [w]
    by_cases e : s.length = 1
    · rw [hg 1 e.symm, h255] at h1; omega
    · by_cases e2 : s.length = 2
      · rw [hg 2 e2.symm, h255] at h2; omega
      · omega
  · rw [w]
    by_cases e : s.length = 1
    · rw [hg 1 e.symm, h255] at h1; omega
    · by_cases e2 : s.length = 2
      · rw [hg 2 e2.symm, h255] at h2; omega
      · by_cases e3 : s.length = 3
        · rw [hg 3 e3.symm, h255] at h3; omega
        · omega
theorem bad_ff (t : Bs) : badL (255 :: t) := by
  rcases shapeL (255 :: t) (by simp) with ⟨h, -⟩ | ⟨-, w, h0, hr⟩ | ⟨-, w, hn, -, h0, h1, hv, hr⟩ | ⟨-, w, hn, -, h0, h1, h2, hv, hs, hr⟩ | ⟨-, w, hn, -, h0, h1, h2, h3, hv, hs, hr⟩
  · exact h
  all_goals (exfalso; simp only [List.getD_cons_zero] at h0; have : (255 : UInt8).toNat = 255 := rfl; omega)

/-! ### how many runes -/
def runGo : Nat → Bs → Option Nat
  | 0, _ => some 0
  | n + 1, l => if l = [] then some 0 else if badL l then none else (runGo n (l.drop (wid l))).map (· + 1)
def runesL (l : Bs) : Option Nat := runGo l.length l
theorem runGo_nil : ∀ n, runGo n [] = some 0
  | 0 => rfl
  | _ + 1 => by simp [runGo]
theorem runGo_fuel : ∀ (n m : Nat) (l : Bs), l.length ≤ n → l.length ≤ m → runGo n l = runGo m l
  | 0, m, l, hn, _ => by
    obtain rfl : l = [] := List.eq_nil_of_length_eq_zero (by omega)
    rw [runGo_nil, runGo_nil]
  | n + 1, 0, l, _, hm => by
    obtain rfl : l = [] := List.eq_nil_of_length_eq_zero (by omega)
    rw [runGo_nil, runGo_nil]
  | n + 1, m + 1, l, hn, hm => by
    unfold runGo
    by_cases hne : l = []
    · rw [if_pos hne, if_pos hne]
    · have := drop_lt l hne
      rw [if_neg hne, if_neg hne, runGo_fuel n m (l.drop (wid l)) (by omega) (by omega)]
theorem runesL_nil : runesL [] = some 0 := rfl
theorem runesL_step (l : Bs) (hne : l ≠ []) : runesL l = if badL l then none else (runesL (l.drop (wid l))).map (· + 1) := by
  have hl := List.length_pos_iff.2 hne
  have := drop_lt l hne
  obtain ⟨n, hn⟩ : ∃ n, l.length = n + 1 := ⟨l.length - 1, by omega⟩
  unfold runesL
  rw [hn]
  show (if l = [] then some 0 else _) = _
  rw [if_neg hne, runGo_fuel n (l.drop (wid l)).length _ (by omega) (Nat.le_refl _)]
theorem runesL_bad (l : Bs) (hne : l ≠ []) (h : badL l) : runesL l = none := by rw [runesL_step l hne, if_pos h]
theorem runesL_ok (l : Bs) (hne : l ≠ []) (h : ¬ badL l) : runesL l = (runesL (l.drop (wid l))).map (· + 1) := by rw [runesL_step l hne, if_neg h]
theorem runesL_le : ∀ (l : Bs) (n : Nat), runesL l = some n → n ≤ l.length := by
  intro l
  refine L_ind (P := fun l => ∀ n, runesL l = some n → n ≤ l.length) ?_ ?_ l
  · intro n h; cases h; exact Nat.zero_le _
  · intro l hne ih n h
    rw [runesL_step l hne] at h
    split at h
    · cases h
    · obtain ⟨m, hm, rfl⟩ := Option.map_eq_some_iff.1 h
      have := ih m hm
      have := drop_lt l hne
      omega
theorem valid_runes (l : Bs) : validD l = (runesL l).isSome := by
  refine L_ind (P := fun l => validD l = (runesL l).isSome) rfl ?_ l
  intro l hne ih
  rw [validD_step l hne, runesL_step l hne]
  by_cases h : badL l
  · rw [if_pos h]
    have h2 : (decodeL l).1 = 65533 ∧ (decodeL l).2 = 1 := h
    rw [if_pos h2]; rfl
  · rw [if_neg h]
    have h2 : ¬ ((decodeL l).1 = 65533 ∧ (decodeL l).2 = 1) := h
    rw [if_neg h2]
    rw [show (decodeL l).2 = wid l from rfl, ih]
    cases runesL (l.drop (wid l)) <;> rfl
theorem drop_app (s t : Bs) (k : Nat) (h : k ≤ s.length) : (s ++ t).drop k = s.drop k ++ t := by
  rw [List.drop_append_of_le_length h]
theorem wid_app (s t : Bs) (hne : s ≠ []) (hb : ¬ badL s) : wid (s ++ t) = wid s := by unfold wid; rw [dec_app s t hne hb]
theorem bad_app (s t : Bs) (hne : s ≠ []) (hb : ¬ badL s) : ¬ badL (s ++ t) := by unfold badL; rw [dec_app s t hne hb]; exact hb
/-- Two texts, one behind the other. -/
theorem runes_app (s t : Bs) (n : Nat) (h : runesL s = some n) : runesL (s ++ t) = (runesL t).map (· + n) := by
  revert n
  refine L_ind (P := fun s => ∀ n, runesL s = some n → runesL (s ++ t) = (runesL t).map (· + n)) ?_ ?_ s
  · intro n h
    cases h
    rw [List.nil_append]
    cases runesL t <;> rfl
  · intro s hne ih n h
    rw [runesL_step s hne] at h
    split at h
    · cases h
    · rename_i hb
      obtain ⟨m, hm, rfl⟩ := Option.map_eq_some_iff.1 h
      rw [runesL_ok _ (app_ne hne) (bad_app s t hne hb), wid_app s t hne hb, drop_app s t _ (wid_le s hne), ih m hm]
      cases runesL t with
      | none => rfl
      | some x => simp only [Option.map_some, Option.some.injEq]; omega
theorem runes_ff (s t : Bs) : runesL (s ++ 255 :: t) = none := by
  have key : ∀ n (s : Bs), s.length ≤ n → runesL (s ++ 255 :: t) = none := by
    intro n
    induction n with
    | zero =>
      intro s hs
      obtain rfl : s = [] := List.eq_nil_of_length_eq_zero (by omega)
      exact runesL_bad _ (by simp) (bad_ff t)
    | succ n ih =>
      intro s hs
      by_cases hne : s = []
      · rw [hne]; exact runesL_bad _ (by simp) (bad_ff t)
      · by_cases hb : badL (s ++ 255 :: t)
        · exact runesL_bad _ (app_ne hne) hb
        · have hw := dec_ff s t hne hb
          have hp := wid_pos (s ++ 255 :: t)
          rw [runesL_ok _ (app_ne hne) hb, drop_app s _ _ hw, ih _ (by rw [List.length_drop]; omega)]
          rfl
  exact key _ s (Nat.le_refl _)
theorem getD0_cons (a : UInt8) (r : Bs) : (a :: r).getD 0 0 = a := rfl
theorem ascii_step (a : UInt8) (r : Bs) (h : a.toNat < 128) : ¬ badL (a :: r) ∧ wid (a :: r) = 1 ∧ run1 (a :: r) = a.toNat := by
  have e : decodeL (a :: r) = (a.toNat, 1) := by rw [decodeL_N, getD0_cons, dN1 h]
  refine ⟨?_, ?_, ?_⟩
  · unfold badL; rw [e]; dsimp only; omega
  · unfold wid; rw [e]
  · unfold run1; rw [e]
theorem runes_cons (a : UInt8) (r : Bs) (h : a.toNat < 128) : runesL (a :: r) = (runesL r).map (· + 1) := by
  obtain ⟨hb, hw, -⟩ := ascii_step a r h
  rw [runesL_ok _ (by simp) hb, hw]
  rfl
theorem runes_ascii : ∀ (l r : Bs), (∀ b ∈ l, b.toNat < 128) → runesL (l ++ r) = (runesL r).map (· + l.length)
  | [], r, _ => by rw [List.nil_append]; cases runesL r <;> rfl
  | a :: l, r, h => by
    rw [List.cons_append, runes_cons a _ (h a List.mem_cons_self), runes_ascii l r (fun b hb => h b (List.mem_cons_of_mem _ hb))]
    cases runesL r with
    | none => rfl
    | some x => simp only [Option.map_some, Option.some.injEq, List.length_cons]; omega

/-! ### what stands in a page -/
def piece (l : Bs) : Bs :=
  if run1 l = 38 then [38, 97, 109, 112, 59]
  else if run1 l = 60 then [38, 108, 116, 59]
  else if run1 l = 62 then [38, 103, 116, 59]
  else if run1 l = 34 then [38, 35, 51, 52, 59]
  else if run1 l = 39 then [38, 35, 51, 57, 59]
  else if badL l then [63] else l.take (wid l)
def escGo : Nat → Bs → Bs
  | 0, _ => []
  | n + 1, l => if l = [] then [] else piece l ++ escGo n (l.drop (wid l))
def escL (l : Bs) : Bs := escGo l.length l
theorem escGo_nil : ∀ n, escGo n [] = []
  | 0 => rfl
  | _ + 1 => by simp [escGo]
theorem escGo_fuel : ∀ (n m : Nat) (l : Bs), l.length ≤ n → l.length ≤ m → escGo n l = escGo m l
  | 0, m, l, hn, _ => by
    obtain rfl : l = [] := List.eq_nil_of_length_eq_zero (by omega)
    rw [escGo_nil, escGo_nil]
  | n + 1, 0, l, _, hm => by
    obtain rfl : l = [] := List.eq_nil_of_length_eq_zero (by omega)
    rw [escGo_nil, escGo_nil]
  | n + 1, m + 1, l, hn, hm => by
    unfold escGo
    by_cases hne : l = []
    · rw [if_pos hne, if_pos hne]
    · have := drop_lt l hne
      rw [if_neg hne, if_neg hne, escGo_fuel n m (l.drop (wid l)) (by omega) (by omega)]
theorem escL_nil : escL [] = [] := rfl
theorem escL_step (l : Bs) (hne : l ≠ []) : escL l = piece l ++ escL (l.drop (wid l)) := by
  have hl := List.length_pos_iff.2 hne
  have := drop_lt l hne
  obtain ⟨n, hn⟩ : ∃ n, l.length = n + 1 := ⟨l.length - 1, by omega⟩
  unfold escL
  rw [hn]
  show (if l = [] then [] else _) = _
  rw [if_neg hne, escGo_fuel n (l.drop (wid l)).length _ (by omega) (Nat.le_refl _)]
/-- A piece: a sign's name; or a mark for what is none; or what stood there. -/
theorem piece_cases (l : Bs) (hne : l ≠ []) :
    (wid l = 1 ∧ ¬ badL l ∧ (l.getD 0 0).toNat = run1 l ∧ (run1 l = 38 ∧ piece l = [38, 97, 109, 112, 59] ∨ run1 l = 60 ∧ piece l = [38, 108, 116, 59] ∨ run1 l = 62 ∧ piece l = [38, 103, 116, 59] ∨ run1 l = 34 ∧ piece l = [38, 35, 51, 52, 59] ∨ run1 l = 39 ∧ piece l = [38, 35, 51, 57, 59])) ∨
    (badL l ∧ wid l = 1 ∧ piece l = [63]) ∨
    (¬ badL l ∧ run1 l ≠ 38 ∧ run1 l ≠ 60 ∧ run1 l ≠ 62 ∧ run1 l ≠ 34 ∧ run1 l ≠ 39 ∧ piece l = l.take (wid l) ∧ (wid l = 1 ∧ (l.getD 0 0).toNat = run1 l ∧ run1 l < 128 ∨ 2 ≤ wid l ∧ 128 ≤ run1 l ∧ ∀ i, i < wid l → 128 ≤ (l.getD i 0).toNat)) := by
  have hlow : run1 l < 128 → ¬ badL l ∧ wid l = 1 ∧ (l.getD 0 0).toNat = run1 l := by
    intro hlt
    rcases shapeL l hne with ⟨⟨h, h'⟩, -⟩ | ⟨hb, w, h0, hr⟩ | ⟨-, w, hn, -, h0, h1, hv, hr⟩ | ⟨-, w, hn, -, h0, h1, h2, hv, hs, hr⟩ | ⟨-, w, hn, -, h0, h1, h2, h3, hv, hs, hr⟩
    · unfold run1 at hlt; omega
    · exact ⟨hb, w, hr.symm⟩
    all_goals omega
  by_cases e1 : run1 l = 38
  · left; obtain ⟨a, b, c⟩ := hlow (by omega); exact ⟨b, a, c, .inl ⟨e1, by unfold piece; rw [if_pos e1]⟩⟩
  by_cases e2 : run1 l = 60
  · left; obtain ⟨a, b, c⟩ := hlow (by omega); exact ⟨b, a, c, .inr (.inl ⟨e2, by unfold piece; rw [if_neg e1, if_pos e2]⟩)⟩
  by_cases e3 : run1 l = 62
  · left; obtain ⟨a, b, c⟩ := hlow (by omega); exact ⟨b, a, c, .inr (.inr (.inl ⟨e3, by unfold piece; rw [if_neg e1, if_neg e2, if_pos e3]⟩))⟩
  by_cases e4 : run1 l = 34
  · left; obtain ⟨a, b, c⟩ := hlow (by omega); exact ⟨b, a, c, .inr (.inr (.inr (.inl ⟨e4, by unfold piece; rw [if_neg e1, if_neg e2, if_neg e3, if_pos e4]⟩)))⟩
  by_cases e5 : run1 l = 39
  · left; obtain ⟨a, b, c⟩ := hlow (by omega); exact ⟨b, a, c, .inr (.inr (.inr (.inr ⟨e5, by unfold piece; rw [if_neg e1, if_neg e2, if_neg e3, if_neg e4, if_pos e5]⟩)))⟩
  right
  by_cases hb : badL l
  · left; exact ⟨hb, hb.2, by unfold piece; rw [if_neg e1, if_neg e2, if_neg e3, if_neg e4, if_neg e5, if_pos hb]⟩
  · right
    refine ⟨hb, e1, e2, e3, e4, e5, by unfold piece; rw [if_neg e1, if_neg e2, if_neg e3, if_neg e4, if_neg e5, if_neg hb], ?_⟩
    rcases shapeL l hne with ⟨h, -⟩ | ⟨-, w, h0, hr⟩ | ⟨-, w, hn, hb0, h0, h1, hv, hr⟩ | ⟨-, w, hn, hb0, h0, h1, h2, hv, hs, hr⟩ | ⟨-, w, hn, hb0, h0, h1, h2, h3, hv, hs, hr⟩
    · exact absurd h hb
    · left; exact ⟨w, hr.symm, by omega⟩
    · right; refine ⟨by omega, hv, fun i hi => ?_⟩
      match i, (show i < 2 by omega) with
      | 0, _ => omega
      | 1, _ => omega
    · right; refine ⟨by omega, by omega, fun i hi => ?_⟩
      match i, (show i < 3 by omega) with
      | 0, _ => omega
      | 1, _ => omega
      | 2, _ => omega
    · right; refine ⟨by omega, by omega, fun i hi => ?_⟩
      match i, (show i < 4 by omega) with
      | 0, _ => omega
      | 1, _ => omega
      | 2, _ => omega
      | 3, _ => omega
theorem piece_long (l : Bs) (hne : l ≠ []) : wid l ≤ (piece l).length ∧ (piece l = l.take (wid l) ∨ badL l ∨ wid l < (piece l).length) := by
  have hw := wid_le l hne
  rcases piece_cases l hne with ⟨w, -, -, ⟨-, e⟩ | ⟨-, e⟩ | ⟨-, e⟩ | ⟨-, e⟩ | ⟨-, e⟩⟩ | ⟨hb, w, e⟩ | ⟨-, -, -, -, -, -, e, -⟩
  · rw [e, w]; exact ⟨by decide, .inr (.inr (by decide))⟩
  · rw [e, w]; exact ⟨by decide, .inr (.inr (by decide))⟩
  · rw [e, w]; exact ⟨by decide, .inr (.inr (by decide))⟩
  · rw [e, w]; exact ⟨by decide, .inr (.inr (by decide))⟩
  · rw [e, w]; exact ⟨by decide, .inr (.inr (by decide))⟩
  · rw [e, w]; exact ⟨Nat.le_refl _, .inr (.inl hb)⟩
  · rw [e, List.length_take]; exact ⟨by omega, .inl rfl⟩
theorem piece_le (l : Bs) (hne : l ≠ []) : (piece l).length ≤ 5 * wid l := by
  have hw := wid_le l hne
  have hp := wid_pos l
  rcases piece_cases l hne with ⟨w, -, -, ⟨-, e⟩ | ⟨-, e⟩ | ⟨-, e⟩ | ⟨-, e⟩ | ⟨-, e⟩⟩ | ⟨hb, w, e⟩ | ⟨-, -, -, -, -, -, e, -⟩
  all_goals (rw [e]; first | (rw [List.length_take]; omega) | (simp only [List.length_cons, List.length_nil]; omega))
theorem esc_long (l : Bs) : l.length ≤ (escL l).length := by
  refine L_ind (P := fun l => l.length ≤ (escL l).length) (Nat.le_refl _) ?_ l
  intro l hne ih
  rw [escL_step l hne, List.length_append]
  rw [List.length_drop] at ih
  have := (piece_long l hne).1
  have := wid_le l hne
  omega
theorem esc_le (l : Bs) : (escL l).length ≤ 5 * l.length := by
  refine L_ind (P := fun l => (escL l).length ≤ 5 * l.length) (Nat.le_refl _) ?_ l
  intro l hne ih
  rw [escL_step l hne, List.length_append]
  rw [List.length_drop] at ih
  have := piece_le l hne
  have := wid_le l hne
  omega
theorem piece_app (s t : Bs) (hne : s ≠ []) (hb : ¬ badL s) : piece (s ++ t) = piece s := by
  have hw := wid_le s hne
  have e : run1 (s ++ t) = run1 s := by unfold run1; rw [dec_app s t hne hb]
  have e2 : (s ++ t).take (wid (s ++ t)) = s.take (wid s) := by rw [wid_app s t hne hb, List.take_append_of_le_length hw]
  have e3 := bad_app s t hne hb
  unfold piece
  rw [e, e2, if_neg hb, if_neg e3]
/-- Of two texts, one behind the other, each a whole one, it is both. -/
theorem esc_app (s t : Bs) (h : runesL s ≠ none) : escL (s ++ t) = escL s ++ escL t := by
  revert h
  refine L_ind (P := fun s => runesL s ≠ none → escL (s ++ t) = escL s ++ escL t) ?_ ?_ s
  · intro _; rfl
  · intro s hne ih h
    rw [runesL_step s hne] at h
    split at h
    · exact absurd rfl h
    · rename_i hb
      have h' : runesL (s.drop (wid s)) ≠ none := by intro h2; rw [h2] at h; exact h rfl
      rw [escL_step _ (app_ne hne), escL_step s hne, piece_app s t hne hb, wid_app s t hne hb, drop_app s t _ (wid_le s hne), ih h', List.append_assoc]
/-- A piece is UTF-8, and at least one rune. -/
theorem piece_runes (l r : Bs) (hne : l ≠ []) : ∃ k, 1 ≤ k ∧ runesL (piece l ++ r) = (runesL r).map (· + k) := by
  rcases piece_cases l hne with ⟨w, -, -, ⟨-, e⟩ | ⟨-, e⟩ | ⟨-, e⟩ | ⟨-, e⟩ | ⟨-, e⟩⟩ | ⟨hb, w, e⟩ | ⟨hb, -, -, -, -, -, e, -⟩
  · rw [e]; exact ⟨_, by decide, runes_ascii _ r (by decide)⟩
  · rw [e]; exact ⟨_, by decide, runes_ascii _ r (by decide)⟩
  · rw [e]; exact ⟨_, by decide, runes_ascii _ r (by decide)⟩
  · rw [e]; exact ⟨_, by decide, runes_ascii _ r (by decide)⟩
  · rw [e]; exact ⟨_, by decide, runes_ascii _ r (by decide)⟩
  · rw [e]; exact ⟨_, by decide, runes_ascii _ r (by decide)⟩
  · refine ⟨1, Nat.le_refl _, ?_⟩
    have hw := wid_le l hne
    have hp := wid_pos l
    have hd := dec_take l r hne hb
    have hne2 : l.take (wid l) ++ r ≠ [] := by
      intro h
      have := congrArg List.length h
      rw [List.length_append, List.length_take] at this
      simp only [List.length_nil] at this
      omega
    have hb2 : ¬ badL (l.take (wid l) ++ r) := by unfold badL; rw [hd]; exact hb
    have hw2 : wid (l.take (wid l) ++ r) = wid l := by unfold wid; rw [show decodeL (List.take (decodeL l).2 l ++ r) = decodeL l from hd]
    rw [e, runesL_ok _ hne2 hb2, hw2]
    congr 2
    rw [List.drop_append_of_le_length (by rw [List.length_take]; omega), List.drop_eq_nil_of_le (by rw [List.length_take]; omega), List.nil_append]
theorem esc_runes (l : Bs) : ∃ k, runesL (escL l) = some k ∧ ∀ n, runesL l = some n → n ≤ k := by
  refine L_ind (P := fun l => ∃ k, runesL (escL l) = some k ∧ ∀ n, runesL l = some n → n ≤ k) ?_ ?_ l
  · exact ⟨0, rfl, fun n h => by cases h; exact Nat.le_refl _⟩
  · intro l hne ⟨k, hk, ih⟩
    obtain ⟨j, hj, e⟩ := piece_runes l (escL (l.drop (wid l))) hne
    refine ⟨k + j, by rw [escL_step l hne, e, hk]; rfl, fun n h => ?_⟩
    rw [runesL_step l hne] at h
    split at h
    · cases h
    · obtain ⟨m, hm, rfl⟩ := Option.map_eq_some_iff.1 h
      have := ih m hm
      omega
theorem sign_ok (l : Bs) (h : ∀ b ∈ l, b.toNat ≠ 60 ∧ b.toNat ≠ 62 ∧ b.toNat ≠ 34 ∧ b.toNat ≠ 39) : ∀ b ∈ l, b.toNat ≠ 60 ∧ b.toNat ≠ 62 ∧ b.toNat ≠ 34 ∧ b.toNat ≠ 39 := h
/-- Nothing of a page's signs is left. -/
theorem esc_signs (l : Bs) : ∀ b ∈ escL l, b.toNat ≠ 60 ∧ b.toNat ≠ 62 ∧ b.toNat ≠ 34 ∧ b.toNat ≠ 39 := by
  refine L_ind (P := fun l => ∀ b ∈ escL l, b.toNat ≠ 60 ∧ b.toNat ≠ 62 ∧ b.toNat ≠ 34 ∧ b.toNat ≠ 39) ?_ ?_ l
  · intro b hb; cases hb
  · intro l hne ih b hb
    rw [escL_step l hne] at hb
    rcases List.mem_append.1 hb with hb | hb
    · rcases piece_cases l hne with ⟨w, -, -, ⟨-, e⟩ | ⟨-, e⟩ | ⟨-, e⟩ | ⟨-, e⟩ | ⟨-, e⟩⟩ | ⟨-, w, e⟩ | ⟨-, n1, n2, n3, n4, n5, e, hh⟩
      · rw [e] at hb; exact sign_ok _ (by decide) b hb
      · rw [e] at hb; exact sign_ok _ (by decide) b hb
      · rw [e] at hb; exact sign_ok _ (by decide) b hb
      · rw [e] at hb; exact sign_ok _ (by decide) b hb
      · rw [e] at hb; exact sign_ok _ (by decide) b hb
      · rw [e] at hb; exact sign_ok _ (by decide) b hb
      · rw [e] at hb
        obtain ⟨i, hi, rfl⟩ := List.getElem_of_mem hb
        have hi2 : i < wid l ∧ i < l.length := by rw [List.length_take] at hi; omega
        have eg : (l.take (wid l))[i] = l.getD i 0 := by
          rw [List.getElem_take, List.getD_eq_getElem?_getD, List.getElem?_eq_getElem hi2.2]; rfl
        rw [eg]
        rcases hh with ⟨w, h0, h128⟩ | ⟨w, h128, h0⟩
        · obtain rfl : i = 0 := by omega
          omega
        · have := h0 i hi2.1
          omega
    · exact ih b hb
theorem esc_same (l : Bs) (h : runesL l ≠ none) : escL l = l ∨ l.length < (escL l).length := by
  revert h
  refine L_ind (P := fun l => runesL l ≠ none → escL l = l ∨ l.length < (escL l).length) ?_ ?_ l
  · intro _; left; rfl
  · intro l hne ih h
    rw [runesL_step l hne] at h
    split at h
    · exact absurd rfl h
    · rename_i hb
      have h' : runesL (l.drop (wid l)) ≠ none := by intro h2; rw [h2] at h; exact h rfl
      have hw := wid_le l hne
      have hlong := esc_long (l.drop (wid l))
      rw [escL_step l hne, List.length_append]
      rw [List.length_drop] at hlong
      rcases piece_long l hne with ⟨hp, hq | hq | hq⟩
      · rcases ih h' with hh | hh
        · left; rw [hq, hh, List.take_append_drop]
        · right; rw [List.length_drop] at hh; omega
      · exact absurd hq hb
      · right; omega

/-! ### names, passwords, notes -/
def letterB (n : Nat) : Bool := decide (97 ≤ n) && decide (n ≤ 122)
def nameMay (i n : Nat) : Bool := letterB n || (decide (0 < i) && (n == 95 || (decide (48 ≤ n) && decide (n ≤ 57))))
def passMay (i n : Nat) : Bool := decide (32 ≤ n) && n != 127
def noteMay (i n : Nat) : Bool := (decide (32 ≤ n) || n == 10) && n != 127
def allGo (may : Nat → Nat → Bool) : Nat → Nat → Bs → Bool
  | 0, _, _ => true
  | n + 1, i, l => if l = [] then true else may i (run1 l) && allGo may n (i + wid l) (l.drop (wid l))
def allR (may : Nat → Nat → Bool) (i : Nat) (l : Bs) : Bool := allGo may l.length i l
theorem allGo_nil (may : Nat → Nat → Bool) : ∀ n i, allGo may n i [] = true
  | 0, _ => rfl
  | _ + 1, _ => by simp [allGo]
theorem allGo_fuel (may : Nat → Nat → Bool) : ∀ (n m i : Nat) (l : Bs), l.length ≤ n → l.length ≤ m → allGo may n i l = allGo may m i l
  | 0, m, i, l, hn, _ => by
    obtain rfl : l = [] := List.eq_nil_of_length_eq_zero (by omega)
    rw [allGo_nil, allGo_nil]
  | n + 1, 0, i, l, _, hm => by
    obtain rfl : l = [] := List.eq_nil_of_length_eq_zero (by omega)
    rw [allGo_nil, allGo_nil]
  | n + 1, m + 1, i, l, hn, hm => by
    unfold allGo
    by_cases hne : l = []
    · rw [if_pos hne, if_pos hne]
    · have := drop_lt l hne
      rw [if_neg hne, if_neg hne, allGo_fuel may n m _ (l.drop (wid l)) (by omega) (by omega)]
theorem allR_nil (may : Nat → Nat → Bool) (i : Nat) : allR may i [] = true := rfl
theorem allR_step (may : Nat → Nat → Bool) (i : Nat) (l : Bs) (hne : l ≠ []) : allR may i l = (may i (run1 l) && allR may (i + wid l) (l.drop (wid l))) := by
  have hl := List.length_pos_iff.2 hne
  have := drop_lt l hne
  obtain ⟨n, hn⟩ : ∃ n, l.length = n + 1 := ⟨l.length - 1, by omega⟩
  unfold allR
  rw [hn]
  show (if l = [] then true else _) = _
  rw [if_neg hne, allGo_fuel may n (l.drop (wid l)).length _ _ (by omega) (Nat.le_refl _)]
/-- The same byte by byte, from place i on. -/
def allB (may : Nat → Nat → Bool) : Nat → Bs → Bool
  | _, [] => true
  | i, b :: l => may i b.toNat && allB may (i + 1) l
theorem allB_drop (may : Nat → Nat → Bool) : ∀ (k i : Nat) (l : Bs), k ≤ l.length → (∀ j, j < k → may (i + j) (l.getD j 0).toNat = true) → allB may i l = allB may (i + k) (l.drop k)
  | 0, i, l, _, _ => by simp
  | k + 1, i, [], h, _ => by simp at h
  | k + 1, i, b :: l, h, hm => by
    have h0 : may i b.toNat = true := hm 0 (by omega)
    rw [allB, h0, Bool.true_and, allB_drop may k (i + 1) l (by simpa using h) (fun j hj => by have := hm (j + 1) (by omega); rw [List.getD_cons_succ] at this; rwa [show i + 1 + j = i + (j + 1) by omega]), List.drop_succ_cons]
    congr 1
    omega
theorem head_getD : ∀ (l : Bs), l ≠ [] → l = l.getD 0 0 :: l.drop 1
  | [], h => absurd rfl h
  | _ :: _, _ => rfl
/-- Where only what is below 128 hangs on the sign, runes and bytes say the same. -/
theorem allR_high (may : Nat → Nat → Bool) (hm : ∀ i n, 128 ≤ n → may i n = true) : ∀ (l : Bs) (i : Nat), runesL l ≠ none → allR may i l = allB may i l := by
  intro l
  refine L_ind (P := fun l => ∀ i, runesL l ≠ none → allR may i l = allB may i l) ?_ ?_ l
  · intro i _; rfl
  · intro l hne ih i h
    rw [runesL_step l hne] at h
    split at h
    · exact absurd rfl h
    · rename_i hb
      have h' : runesL (l.drop (wid l)) ≠ none := by intro h2; rw [h2] at h; exact h rfl
      rw [allR_step may i l hne, ih _ h']
      have hw := wid_le l hne
      rcases shapeL l hne with ⟨hb2, -⟩ | ⟨-, w, h0, hr⟩ | ⟨-, w, hn, hb0, h0, h1, hv, hr⟩ | ⟨-, w, hn, hb0, h0, h1, h2, hv, hs, hr⟩ | ⟨-, w, hn, hb0, h0, h1, h2, h3, hv, hs, hr⟩
      · exact absurd hb2 hb
      · rw [w, hr]
        conv => rhs; rw [head_getD l hne, allB]
      · rw [hm i _ (by omega), Bool.true_and]
        refine (allB_drop may _ i l hw (fun j hj => hm _ _ ?_)).symm
        match j, (show j < 2 by omega) with
        | 0, _ => omega
        | 1, _ => omega
      · rw [hm i _ (by omega), Bool.true_and]
        refine (allB_drop may _ i l hw (fun j hj => hm _ _ ?_)).symm
        match j, (show j < 3 by omega) with
        | 0, _ => omega
        | 1, _ => omega
        | 2, _ => omega
      · rw [hm i _ (by omega), Bool.true_and]
        refine (allB_drop may _ i l hw (fun j hj => hm _ _ ?_)).symm
        match j, (show j < 4 by omega) with
        | 0, _ => omega
        | 1, _ => omega
        | 2, _ => omega
        | 3, _ => omega
/-- Where nothing from 128 on may be, runes and bytes say the same. -/
theorem allR_low (may : Nat → Nat → Bool) (hm : ∀ i n, 128 ≤ n → may i n = false) : ∀ (l : Bs) (i : Nat), ((runesL l).isSome && allR may i l) = allB may i l := by
  intro l
  refine L_ind (P := fun l => ∀ i, ((runesL l).isSome && allR may i l) = allB may i l) ?_ ?_ l
  · intro i; rfl
  · intro l hne ih i
    have hno : ∀ b : Bool, 128 ≤ (l.getD 0 0).toNat → (b && (may i (run1 l) && allR may (i + wid l) (l.drop (wid l)))) = allB may i l ∨ may i (run1 l) = true ∧ b = true := by
      intro b h
      have : allB may i l = false := by conv => lhs; rw [head_getD l hne, allB, hm i _ h, Bool.false_and]
      rw [this]
      cases b <;> cases may i (run1 l) <;> simp
    rw [allR_step may i l hne, runesL_step l hne]
    by_cases hb : badL l
    · rw [if_pos hb]
      by_cases h128 : 128 ≤ (l.getD 0 0).toNat
      · rcases hno (none : Option Nat).isSome h128 with h | ⟨-, h⟩
        · exact h
        · cases h
      · have := ascii_step (l.getD 0 0) (l.drop 1) (by omega)
        rw [← head_getD l hne] at this
        exact absurd hb this.1
    · rw [if_neg hb]
      have hiw := ih (i + wid l)
      rcases shapeL l hne with ⟨hb2, -⟩ | ⟨-, w, h0, hr⟩ | ⟨-, w, hn, hb0, h0, h1, hv, hr⟩ | ⟨-, w, hn, hb0, h0, h1, h2, hv, hs, hr⟩ | ⟨-, w, hn, hb0, h0, h1, h2, h3, hv, hs, hr⟩
      · exact absurd hb2 hb
      · have e : allB may i l = (may i (run1 l) && allB may (i + wid l) (l.drop (wid l))) := by
          rw [w, hr]
          conv => lhs; rw [head_getD l hne, allB]
        rw [e, ← hiw, Option.isSome_map]
        cases (runesL (l.drop (wid l))).isSome <;> cases may i (run1 l) <;> rfl
      all_goals
        rcases hno ((runesL (l.drop (wid l))).map (· + 1)).isSome (by omega) with h | ⟨h, -⟩
        · exact h
        · rw [hm i _ (by omega)] at h; cases h
theorem nameMay_high (i n : Nat) (h : 128 ≤ n) : nameMay i n = false := by
  unfold nameMay letterB
  rw [decide_eq_false (p := n ≤ 122) (by omega), decide_eq_false (p := n ≤ 57) (by omega), show (n == 95) = false by rw [beq_eq_false_iff_ne]; omega]
  simp
theorem passMay_high (i n : Nat) (h : 128 ≤ n) : passMay i n = true := by
  unfold passMay
  rw [decide_eq_true (p := 32 ≤ n) (by omega), show (n != 127) = true by rw [bne_iff_ne]; omega]; rfl
theorem noteMay_high (i n : Nat) (h : 128 ≤ n) : noteMay i n = true := by
  unfold noteMay
  rw [decide_eq_true (p := 32 ≤ n) (by omega), show (n != 127) = true by rw [bne_iff_ne]; omega]; rfl
def nameL (l : Bs) : Bool := decide (1 ≤ l.length) && decide (l.length ≤ 20) && allB nameMay 0 l
def passL (l : Bs) : Bool := decide (1 ≤ l.length) && decide (l.length ≤ 60) && ((runesL l).isSome && allB passMay 0 l)
def noteL (l : Bs) : Bool := decide (l.length ≤ 200) && ((runesL l).isSome && allB noteMay 0 l)
theorem name_all (l : Bs) : (validD l && allR nameMay 0 l) = allB nameMay 0 l := by rw [valid_runes, allR_low nameMay nameMay_high l 0]
theorem pass_all (l : Bs) : (validD l && allR passMay 0 l) = ((runesL l).isSome && allB passMay 0 l) := by
  rw [valid_runes]
  cases h : runesL l with
  | none => rfl
  | some n => rw [allR_high passMay passMay_high l 0 (by rw [h]; simp)]
theorem note_all (l : Bs) : (validD l && allR noteMay 0 l) = ((runesL l).isSome && allB noteMay 0 l) := by
  rw [valid_runes]
  cases h : runesL l with
  | none => rfl
  | some n => rw [allR_high noteMay noteMay_high l 0 (by rw [h]; simp)]
theorem allB_app (may : Nat → Nat → Bool) : ∀ (s t : Bs) (i : Nat), allB may i (s ++ t) = (allB may i s && allB may (i + s.length) t)
  | [], t, i => by simp [allB]
  | b :: s, t, i => by
    rw [List.cons_append, allB, allB, allB_app may s t (i + 1), Bool.and_assoc]
    congr 3
    simp only [List.length_cons]; omega
theorem allB_mono {p q : Nat → Nat → Bool} (h : ∀ i n, p i n = true → q i n = true) : ∀ (l : Bs) (i j : Nat), (∀ k n, p (i + k) n = true → q (j + k) n = true) → allB p i l = true → allB q j l = true
  | [], _, _, _, _ => rfl
  | b :: l, i, j, hk, hp => by
    simp only [allB, Bool.and_eq_true] at hp ⊢
    exact ⟨hk 0 _ hp.1, allB_mono h l (i + 1) (j + 1) (fun k n hn => by have := hk (k + 1) n (by rwa [show i + (k + 1) = i + 1 + k by omega]); rwa [show j + (k + 1) = j + 1 + k by omega] at this) hp.2⟩
theorem nameMay_pass (i n : Nat) (h : nameMay i n = true) : passMay i n = true ∧ n < 128 := by
  unfold nameMay letterB at h
  unfold passMay
  simp only [Bool.or_eq_true, Bool.and_eq_true, decide_eq_true_eq, beq_iff_eq, bne_iff_ne] at h ⊢
  omega
theorem passMay_note (i n : Nat) (h : passMay i n = true) : noteMay i n = true := by
  unfold passMay at h
  unfold noteMay
  simp only [Bool.or_eq_true, Bool.and_eq_true, decide_eq_true_eq, beq_iff_eq, bne_iff_ne] at h ⊢
  exact ⟨.inl h.1, h.2⟩
theorem ascii_of_name : ∀ (l : Bs) (i : Nat), allB nameMay i l = true → ∀ b ∈ l, b.toNat < 128
  | [], _, _, b, hb => by cases hb
  | a :: l, i, h, b, hb => by
    simp only [allB, Bool.and_eq_true] at h
    rcases List.mem_cons.1 hb with rfl | hb
    · exact (nameMay_pass i _ h.1).2
    · exact ascii_of_name l (i + 1) h.2 b hb
theorem name_pass {l : Bs} (h : nameL l = true) : passL l = true := by
  unfold nameL at h
  unfold passL
  simp only [Bool.and_eq_true, decide_eq_true_eq] at h ⊢
  have := runes_ascii l [] (ascii_of_name l 0 h.2)
  rw [List.append_nil] at this
  refine ⟨⟨h.1.1, by omega⟩, by rw [this]; rfl, allB_mono (fun i n hn => (nameMay_pass i n hn).1) l 0 0 (fun k n hn => (nameMay_pass _ n hn).1) h.2⟩
theorem pass_note {l : Bs} (h : passL l = true) : noteL l = true := by
  unfold passL at h
  unfold noteL
  simp only [Bool.and_eq_true, decide_eq_true_eq] at h ⊢
  exact ⟨by omega, h.2.1, allB_mono (fun i n hn => passMay_note i n hn) l 0 0 (fun k n hn => passMay_note _ n hn) h.2.2⟩
theorem runes_rep (n : Nat) (b : UInt8) (hb : b.toNat < 128) : runesL (List.replicate n b) = some n := by
  have := runes_ascii (List.replicate n b) [] (fun x hx => by rw [List.eq_of_mem_replicate hx]; exact hb)
  rw [List.append_nil, List.length_replicate] at this
  rw [this]
  show some (0 + n) = some n
  rw [Nat.zero_add]
theorem allB_rep (may : Nat → Nat → Bool) (b : UInt8) (h : ∀ i, may i b.toNat = true) : ∀ (n i : Nat), allB may i (List.replicate n b) = true
  | 0, _ => rfl
  | n + 1, i => by rw [List.replicate_succ, allB, h, allB_rep may b h n]; rfl
theorem nameL_rep (n : Nat) : nameL (List.replicate n 97) = (decide (1 ≤ n) && decide (n ≤ 20)) := by
  unfold nameL
  rw [allB_rep nameMay 97 (fun i => rfl), List.length_replicate, Bool.and_true]
theorem passL_rep (n : Nat) : passL (List.replicate n 97) = (decide (1 ≤ n) && decide (n ≤ 60)) := by
  unfold passL
  rw [allB_rep passMay 97 (fun i => rfl), runes_rep n 97 (by decide), List.length_replicate]
  simp
theorem noteL_rep (n : Nat) : noteL (List.replicate n 97) = decide (n ≤ 200) := by
  unfold noteL
  rw [allB_rep noteMay 97 (fun i => rfl), runes_rep n 97 (by decide), List.length_replicate]
  simp
theorem noteL_rep_nl (n : Nat) : noteL (List.replicate n 97 ++ [10]) = decide (n < 200) := by
  unfold noteL
  rw [allB_app, allB_rep noteMay 97 (fun i => rfl), runes_app _ _ n (runes_rep n 97 (by decide)), List.length_append, List.length_replicate, List.length_singleton]
  have e : (runesL [10]) = some 1 := by decide
  rw [e]
  have e2 : ∀ i, allB noteMay i [10] = true := fun i => rfl
  rw [e2]
  simp [Nat.lt_iff_add_one_le]
theorem passL_nl (l : Bs) : passL (l ++ [10]) = false := by
  unfold passL
  rw [allB_app]
  have e2 : ∀ i, allB passMay i [10] = false := fun i => rfl
  rw [e2]
  simp
theorem nameL_back {l : Bs} {b : UInt8} (h : ∀ i, nameMay i b.toNat = false) : nameL (l ++ [b]) = false := by
  unfold nameL
  rw [allB_app]
  have e2 : ∀ i, allB nameMay i [b] = false := fun i => by rw [allB, h]; rfl
  rw [e2]
  simp
theorem nameL_front {l : Bs} {b : UInt8} (h : nameMay 0 b.toNat = false) : nameL (b :: l) = false := by
  unfold nameL
  rw [allB, h]
  simp
theorem nameL_take {l : Bs} (k : Nat) (hk : 1 ≤ k) (hl : k ≤ l.length) (h : nameL l = true) : nameL (l.take k) = true := by
  unfold nameL at h ⊢
  simp only [Bool.and_eq_true, decide_eq_true_eq] at h ⊢
  have e := allB_app nameMay (l.take k) (l.drop k) 0
  rw [List.take_append_drop, h.2] at e
  have e := e.symm
  rw [Bool.and_eq_true] at e
  rw [List.length_take]
  exact ⟨⟨by omega, by omega⟩, e.1⟩
theorem nameL_head {l : Bs} (h : nameL l = true) : 97 ≤ (l.getD 0 0).toNat ∧ (l.getD 0 0).toNat ≤ 122 := by
  unfold nameL at h
  simp only [Bool.and_eq_true, decide_eq_true_eq] at h
  have hne : l ≠ [] := List.length_pos_iff.1 h.1.1
  rw [head_getD l hne, allB, Bool.and_eq_true] at h
  have := h.2.1
  unfold nameMay letterB at this
  simpa using this
end Go.Proofs.YtlehjehnapjioaaDoor.E
