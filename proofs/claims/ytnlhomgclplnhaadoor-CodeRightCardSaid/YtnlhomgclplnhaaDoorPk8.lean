import Derived.Test.YtnlhomgclplnhaaDoorPk4
import Derived.Test.YtnlhomgclplnhaaDoorPk5
import Derived.Test.YtnlhomgclplnhaaDoorPk7
import Derived.Test.YtnlhomgclplnhaaDoorRows
import Derived.Test.YtnlhomgclplnhaaDoorPk1
import Derived.Deep.Slices
/- The law's generator of states, plain. -/
namespace Go.Proofs.YtnlhomgclplnhaaDoor.E
open Go.RowKit Go.Proofs.YtnlhomgclplnhaaDoorW.PrintWords Go.Proofs.YtnlhomgclplnhaaDoorW.PrintLast Go.Proofs.YtnlhomgclplnhaaDoorW.PrintMore Go.Proofs.YtnlhomgclplnhaaDoor.Pr
set_option linter.unusedVariables false
set_option linter.unusedSimpArgs false
/-- The ID of a number, and a user's name. -/
def idRow (i : Nat) : List Int := ((i : Nat) : Int) :: (List.replicate 30 0 ++ [((i ^^^ 90 : Nat) : Int)])
def idT (i : Nat) : ByteArray := ⟨(toB (hexL (idRow i))).toArray⟩
def nmT (i : Nat) : ByteArray := ⟨#[117, UInt8.ofNat (97 + i % 5)]⟩
/-- A choice. -/
def ch (l : List Int) (i : Nat) : Nat := (l.getD i 0).toNat
def genUser (l : List Int) (i : Nat) : Option S33 :=
  if ch l 1 / 2 ^ i % 2 = 1 then some ⟨nmT i, List.replicate 16 0, (List.replicate 32 0).set i ((ch l 4 : Nat) : Int), ⟨#[]⟩, ((ch l 2 % 9 : Nat) : Int), ((ch l 3 : Nat) : Int)⟩ else none
def genUsers (l : List Int) : List S33 := (List.range 5).filterMap (genUser l)
def genSess (us : List S33) (l : List Int) (i : Nat) : Option S31 :=
  if ch l i % 3 = 0 then none else some ⟨idT i, if 0 < us.length ∧ 0 < ch l i % 4 then (rd_T33 us ((ch l i % us.length : Nat) : Int)).f0 else ⟨#[]⟩, ((ch l i % 40 : Nat) : Int), ((ch l i % 40 + ch l i % 7 : Nat) : Int), decide (ch l i % 5 = 4)⟩
def genSesses (l : List Int) : List S31 := (List.range 16).filterMap (genSess (genUsers l) l)
def stateG (l : List Int) : Option (Int × List S33 × List S31) :=
  if ∀ x ∈ l, 0 ≤ x ∧ x ≤ 255 then some (((ch l 0 : Nat) : Int), genUsers l, genSesses l) else none
end Go.Proofs.YtnlhomgclplnhaaDoor.E


/- A generated state may be; a turned one may not: plain. -/
namespace Go.Proofs.YtnlhomgclplnhaaDoor.E
open Go.RowKit Go.Proofs.YtnlhomgclplnhaaDoorW.PrintWords Go.Proofs.YtnlhomgclplnhaaDoorW.PrintLast Go.Proofs.YtnlhomgclplnhaaDoorW.PrintMore Go.Proofs.YtnlhomgclplnhaaDoor.Pr
set_option linter.unusedVariables false
set_option linter.unusedSimpArgs false
theorem nm_good : ∀ i ∈ List.range 5, nameL (strL (nmT i)) = true ∧ leS (nmT i) ⟨#[]⟩ = false := by decide +kernel
theorem nm_up : (List.range 5).Pairwise fun i j => leS (nmT j) (nmT i) = false := by decide +kernel
theorem id_good : ∀ i ∈ List.range 16, idL (idT i) = true ∧ leS (idT i) ⟨#[]⟩ = false := by decide +kernel
theorem id_up : (List.range 16).Pairwise fun i j => leS (idT j) (idT i) = false := by decide +kernel
theorem note_none : noteL (strL ⟨#[]⟩) = true := by decide +kernel
theorem leS_self (a : ByteArray) : leS a a = true := by unfold leS; simp
/-- Users of a growing list of numbers. -/
theorem users_of (l : List Int) : ∀ (L : List Nat) (last : ByteArray), (∀ i ∈ L, leS (nmT i) last = false) → L.Pairwise (fun i j => leS (nmT j) (nmT i) = false) → (∀ i ∈ L, nameL (strL (nmT i)) = true) → usersGood last (L.filterMap (genUser l)) = true
  | [], _, _, _, _ => rfl
  | i :: L, last, h1, h2, h3 => by
    have hp := List.pairwise_cons.1 h2
    rw [List.filterMap_cons]
    by_cases c : ch l 1 / 2 ^ i % 2 = 1
    · have e : genUser l i = some ⟨nmT i, List.replicate 16 0, (List.replicate 32 0).set i ((ch l 4 : Nat) : Int), ⟨#[]⟩, ((ch l 2 % 9 : Nat) : Int), ((ch l 3 : Nat) : Int)⟩ := by unfold genUser; rw [if_pos c]
      rw [e]
      have ih := users_of l L (nmT i) hp.1 hp.2 (fun j hj => h3 j (List.mem_cons_of_mem _ hj))
      have h4 : (ch l 2 % 9 : Nat) < 9 := Nat.mod_lt _ (by decide)
      simp only [usersGood, userGood, ih, h3 i (List.mem_cons_self ..), h1 i (List.mem_cons_self ..), note_none, List.length_set, List.length_replicate, Bool.and_true, Bool.true_and, Bool.not_false, decide_true, Bool.and_eq_true, decide_eq_true_eq]
      omega
    · have e : genUser l i = none := by unfold genUser; rw [if_neg c]
      rw [e]
      exact users_of l L last (fun j hj => h1 j (List.mem_cons_of_mem _ hj)) hp.2 (fun j hj => h3 j (List.mem_cons_of_mem _ hj))
theorem users_good (l : List Int) : usersGood ⟨#[]⟩ (genUsers l) = true := users_of l _ _ (fun i hi => (nm_good i hi).2) nm_up (fun i hi => (nm_good i hi).1)
theorem in_empty (us : List S33) : inN ⟨#[]⟩ (namesL us) = true := by unfold inN namesL; simp
theorem in_name (us : List S33) (n : Nat) (h : 0 < us.length) : inN (rd_T33 us ((n % us.length : Nat) : Int)).f0 (namesL us) = true := by
  have hl : n % us.length < us.length := Nat.mod_lt _ h
  have e : rd_T33 us ((n % us.length : Nat) : Int) = us[n % us.length] := by
    unfold rd_T33
    rw [Int.toNat_natCast, List.getD_eq_getElem?_getD, List.getElem?_eq_getElem hl]
    rfl
  rw [e]
  unfold inN namesL
  rw [List.any_eq_true]
  refine ⟨us[n % us.length].f0, ?_, by simp⟩
  rw [List.mem_append, List.mem_reverse, List.mem_map]
  exact Or.inl ⟨_, List.getElem_mem hl, rfl⟩
theorem sess_of (us : List S33) (l : List Int) : ∀ (L : List Nat) (last : ByteArray), (∀ i ∈ L, leS (idT i) last = false) → L.Pairwise (fun i j => leS (idT j) (idT i) = false) → (∀ i ∈ L, idL (idT i) = true) → sessesGood (namesL us) last (L.filterMap (genSess us l)) = true
  | [], _, _, _, _ => rfl
  | i :: L, last, h1, h2, h3 => by
    have hp := List.pairwise_cons.1 h2
    rw [List.filterMap_cons]
    by_cases c : ch l i % 3 = 0
    · have e : genSess us l i = none := by unfold genSess; rw [if_pos c]
      rw [e]
      exact sess_of us l L last (fun j hj => h1 j (List.mem_cons_of_mem _ hj)) hp.2 (fun j hj => h3 j (List.mem_cons_of_mem _ hj))
    · obtain ⟨x, e, e0, e1⟩ : ∃ x, genSess us l i = some x ∧ x.f0 = idT i ∧ inN x.f1 (namesL us) = true := by
        unfold genSess
        rw [if_neg c]
        refine ⟨_, rfl, rfl, ?_⟩
        show inN (if _ then _ else _) _ = true
        split
        case isTrue hh => exact in_name us _ hh.1
        case isFalse hh => exact in_empty us
      rw [e]
      have ih := sess_of us l L (idT i) hp.1 hp.2 (fun j hj => h3 j (List.mem_cons_of_mem _ hj))
      simp only [sessesGood, sessGood, e0, e1, ih, h3 i (List.mem_cons_self ..), h1 i (List.mem_cons_self ..), Bool.and_true, Bool.not_false]
theorem sesses_good (l : List Int) : sessesGood (namesL (genUsers l)) ⟨#[]⟩ (genSesses l) = true := sess_of _ l _ _ (fun i hi => (id_good i hi).2) id_up (fun i hi => (id_good i hi).1)
theorem len_users (l : List Int) : (genUsers l).length ≤ 5 := Nat.le_trans (List.length_filterMap_le _ _) (by decide)
theorem len_sesses (l : List Int) : (genSesses l).length ≤ 16 := Nat.le_trans (List.length_filterMap_le _ _) (by decide)
theorem right_gen (l : List Int) : rightL (genUsers l) (genSesses l) = true := by
  have h1 := len_users l
  have h2 := len_sesses l
  have e1 : decide ((genUsers l).length ≤ 50) = true := decide_eq_true (by omega)
  have e2 : decide ((genSesses l).length ≤ 200) = true := decide_eq_true (by omega)
  unfold rightL
  rw [e1, e2, users_good, sesses_good]
  rfl
/-! ### turned ones -/
theorem users_bad : ∀ (A : List S33) (last : ByteArray) (u v : S33) (B : List S33), leS v.f0 u.f0 = true → usersGood last (A ++ u :: v :: B) = false
  | [], last, u, v, B, h => by simp [usersGood, userGood, h]
  | a :: A, last, u, v, B, h => by
    show (userGood last a && usersGood a.f0 (A ++ u :: v :: B)) = false
    rw [users_bad A a.f0 u v B h, Bool.and_false]
theorem sesses_bad (ns : List ByteArray) : ∀ (A : List S31) (last : ByteArray) (u v : S31) (B : List S31), leS v.f0 u.f0 = true → sessesGood ns last (A ++ u :: v :: B) = false
  | [], last, u, v, B, h => by simp [sessesGood, sessGood, h]
  | a :: A, last, u, v, B, h => by
    show (sessGood ns last a && sessesGood ns a.f0 (A ++ u :: v :: B)) = false
    rw [sesses_bad ns A a.f0 u v B h, Bool.and_false]
theorem sesses_bad1 (ns : List ByteArray) : ∀ (A : List S31) (last : ByteArray) (u : S31) (B : List S31), (idL u.f0 = false ∨ inN u.f1 ns = false) → sessesGood ns last (A ++ u :: B) = false
  | [], last, u, B, h => by
    rcases h with h | h <;> simp [sessesGood, sessGood, h]
  | a :: A, last, u, B, h => by
    show (sessGood ns last a && sessesGood ns a.f0 (A ++ u :: B)) = false
    rw [sesses_bad1 ns A a.f0 u B h, Bool.and_false]
theorem right_users {us : List S33} {ss : List S31} (h : usersGood ⟨#[]⟩ us = false) : rightL us ss = false := by unfold rightL; rw [h]; simp
theorem right_sesses {us : List S33} {ss : List S31} (h : sessesGood (namesL us) ⟨#[]⟩ ss = false) : rightL us ss = false := by unfold rightL; rw [h]; simp
theorem id_bad : idL ⟨#[48, 48]⟩ = false := by decide +kernel
theorem nobody_out (l : List Int) : inN ⟨#[110, 111, 98, 111, 100, 121]⟩ (namesL (genUsers l)) = false := by
  unfold inN namesL genUsers
  rw [List.any_eq_false]
  intro m hm
  rw [decide_eq_true_eq]
  rintro rfl
  rw [List.mem_append, List.mem_reverse, List.mem_map] at hm
  rcases hm with ⟨u, hu, e⟩ | hm
  · obtain ⟨i, hi, e2⟩ := List.mem_filterMap.1 hu
    unfold genUser at e2
    split at e2
    case isTrue =>
      obtain rfl := Option.some.inj e2
      have := congrArg ByteArray.size e
      revert this
      exact (by decide : ¬ ((2 : Nat) = 6))
    case isFalse => cases e2
  · simp at hm
end Go.Proofs.YtnlhomgclplnhaaDoor.E


/- Generated data lie in what Right and State are told for: plain. -/
namespace Go.Proofs.YtnlhomgclplnhaaDoor.E
open Go.RowKit Go.Proofs.YtnlhomgclplnhaaDoorW.PrintWords Go.Proofs.YtnlhomgclplnhaaDoorW.PrintLast Go.Proofs.YtnlhomgclplnhaaDoorW.PrintMore Go.Proofs.YtnlhomgclplnhaaDoor.Pr
set_option linter.unusedVariables false
set_option linter.unusedSimpArgs false
structure GUOk (u : S33) : Prop where
  n0 : u.f0.size ≤ 64
  n3 : u.f3.size ≤ 64
  l1 : u.f1.length ≤ 64
  l2 : u.f2.length ≤ 64
  b1 : ∀ x ∈ u.f1, 0 ≤ x ∧ x ≤ 255
  b2 : ∀ x ∈ u.f2, 0 ≤ x ∧ x ≤ 255
  h5 : 0 ≤ u.f5
structure GSOk (u : S31) : Prop where
  n0 : u.f0.size ≤ 64
  n1 : u.f1.size ≤ 64
  h2 : 0 ≤ u.f2
  h3 : 0 ≤ u.f3
theorem flat_le {α : Type} (f : α → List Int) (c : Nat) : ∀ L : List α, (∀ u ∈ L, (f u).length ≤ c) → (L.flatMap f).length ≤ c * L.length
  | [], _ => Nat.zero_le _
  | u :: L, h => by
    have h1 := h u (List.mem_cons_self ..)
    have ih := flat_le f c L (fun v hv => h v (List.mem_cons_of_mem _ hv))
    rw [List.flatMap_cons, List.length_append, List.length_cons, Nat.mul_succ]
    omega
theorem user_le {u : S33} (h : GUOk u) : (UserB u).length ≤ 512 := by
  have := h.n0; have := h.n3; have := h.l1; have := h.l2
  simp only [UserB, userB, List.length_append, strB_len, beN_length]; omega
theorem sess_le {u : S31} (h : GSOk u) : (SessB u).length ≤ 512 := by
  have := h.n0; have := h.n1
  simp only [SessB, sessB, List.length_append, strB_len, beN_length]; omega
theorem right_some (c : Int) {us : List S33} {ss : List S31} (hu : ∀ u ∈ us, GUOk u) (hs : ∀ u ∈ ss, GSOk u) : code_Right.f c us ss = some (rightL us ss) := by
  unfold code_Right.f
  rw [if_pos ⟨fun u h => ⟨Nat.le_trans (hu u h).n0 (by decide), Nat.le_trans (hu u h).n3 (by decide)⟩, fun u h => ⟨Nat.le_trans (hs u h).n0 (by decide), Nat.le_trans (hs u h).n1 (by decide)⟩⟩]
theorem state_some (c : Int) (hc : 0 ≤ c) {us : List S33} {ss : List S31} (hu : ∀ u ∈ us, GUOk u) (hs : ∀ u ∈ ss, GSOk u) (hul : us.length ≤ 100) (hsl : ss.length ≤ 100) : code_State.f c us ss = some (stateR c us ss) := by
  have h1 := flat_le UserB 512 us (fun u h => user_le (hu u h))
  have h2 := flat_le SessB 512 ss (fun u h => sess_le (hs u h))
  unfold code_State.f
  rw [if_pos ⟨⟨fun u h => ⟨Nat.le_trans (hu u h).n0 (by decide), Nat.le_trans (hu u h).n3 (by decide)⟩, fun u h => ⟨Nat.le_trans (hs u h).n0 (by decide), Nat.le_trans (hs u h).n1 (by decide)⟩⟩, ⟨hc, fun u h => ⟨⟨(hu u h).b1, (hu u h).b2⟩, (hu u h).h5⟩, fun u h => ⟨(hs u h).h2, (hs u h).h3⟩⟩, by omega⟩]
theorem ch_le {l : List Int} (h : ∀ x ∈ l, 0 ≤ x ∧ x ≤ 255) (i : Nat) : ch l i ≤ 255 := by
  unfold ch
  rw [List.getD_eq_getElem?_getD]
  by_cases c : i < l.length
  · rw [List.getElem?_eq_getElem c]
    have := h _ (List.getElem_mem c)
    show (l[i]).toNat ≤ 255
    omega
  · rw [List.getElem?_eq_none (by omega)]; decide
theorem set_bytes {n i : Nat} {v : Nat} (hv : v ≤ 255) : ∀ x ∈ (List.replicate n (0 : Int)).set i ((v : Nat) : Int), 0 ≤ x ∧ x ≤ 255 := by
  intro x hx
  rcases List.mem_or_eq_of_mem_set hx with hx | rfl
  · rw [(List.mem_replicate.1 hx).2]; decide
  · omega
theorem id_size : ∀ i ∈ List.range 16, (idT i).size = 64 := by decide +kernel
theorem users_ok {l : List Int} (h : ∀ x ∈ l, 0 ≤ x ∧ x ≤ 255) : ∀ u ∈ genUsers l, GUOk u := by
  intro u hu
  obtain ⟨i, hi, e⟩ := List.mem_filterMap.1 hu
  unfold genUser at e
  split at e
  case isFalse => cases e
  case isTrue =>
    obtain rfl := Option.some.inj e
    refine ⟨(by decide : 2 ≤ 64), (by decide : 0 ≤ 64), ?_, ?_, ?_, ?_, ?_⟩
    · simp
    · simp
    · intro x hx; rw [(List.mem_replicate.1 hx).2]; decide
    · exact set_bytes (ch_le h 4)
    · exact Int.natCast_nonneg _
theorem rd_memU {us : List S33} {n : Nat} (h : n < us.length) : rd_T33 us ((n : Nat) : Int) ∈ us := by
  unfold rd_T33
  rw [Int.toNat_natCast, List.getD_eq_getElem?_getD, List.getElem?_eq_getElem h]
  exact List.getElem_mem h
theorem sesses_ok {l : List Int} (h : ∀ x ∈ l, 0 ≤ x ∧ x ≤ 255) : ∀ u ∈ genSesses l, GSOk u := by
  intro u hu
  obtain ⟨i, hi, e⟩ := List.mem_filterMap.1 hu
  unfold genSess at e
  split at e
  case isTrue => cases e
  case isFalse =>
    obtain rfl := Option.some.inj e
    refine ⟨Nat.le_of_eq (id_size i hi), ?_, Int.natCast_nonneg _, Int.natCast_nonneg _⟩
    show ByteArray.size (if _ then _ else _) ≤ 64
    split
    case isTrue hh => exact (users_ok h _ (rd_memU (Nat.mod_lt _ hh.1))).n0
    case isFalse => decide
end Go.Proofs.YtnlhomgclplnhaaDoor.E


/- The printed generator of states is the plain one. -/
namespace Go.Proofs.YtnlhomgclplnhaaDoor.E
open Go.RowKit Go.Proofs.YtnlhomgclplnhaaDoorW.PrintWords Go.Proofs.YtnlhomgclplnhaaDoorW.PrintLast Go.Proofs.YtnlhomgclplnhaaDoorW.PrintMore Go.Proofs.YtnlhomgclplnhaaDoor.Pr
set_option linter.unusedVariables false
set_option linter.unusedSimpArgs false
theorem nmt_all : ∀ i : Nat, i < 5 → wicketmanlaw16_Name.f ((i : Int) % 256) = some (nmT i) := by decide +kernel
theorem idt_all : ∀ i : Nat, i < 16 → wicketmanlaw16_ID.f ((i : Int) % 256) = some (idT i) := by decide +kernel
theorem cpy_rd {l : List Int} (h : ∀ x ∈ l, 0 ≤ x ∧ x ≤ 255) (n : Nat) {j : Nat} (hj : j < n) : rd (cpyL (List.replicate n 0) l) (j : Int) = ((ch l j : Nat) : Int) := by
  unfold rd cpyL ch
  rw [Int.toNat_natCast, List.length_replicate, List.getD_eq_getElem?_getD, List.getD_eq_getElem?_getD]
  by_cases c : j < l.length
  · rw [List.getElem?_append_left (by rw [List.length_take]; omega), List.getElem?_take, if_pos hj, List.getElem?_eq_getElem c]
    have := (h _ (List.getElem_mem c)).1
    show l[j] = ((l[j].toNat : Nat) : Int)
    omega
  · rw [List.getElem?_append_right (by rw [List.length_take]; omega), List.getElem?_drop, List.getElem?_replicate, List.getElem?_eq_none (by omega : l.length ≤ j)]
    split <;> rfl
theorem ch255 {l : List Int} (h : ∀ x ∈ l, 0 ≤ x ∧ x ≤ 255) (i : Nat) : ch l i ≤ 255 := by
  unfold ch
  rw [List.getD_eq_getElem?_getD]
  by_cases c : i < l.length
  · rw [List.getElem?_eq_getElem c]
    have := h _ (List.getElem_mem c)
    show (l[i]).toNat ≤ 255
    omega
  · rw [List.getElem?_eq_none (by omega)]; decide
theorem shr_u8 (a i : Nat) (hi : i < 8) : shr .u8 (a : Int) (i : Int) = ((a / 2 ^ i : Nat) : Int) := by
  unfold shr
  rw [Int.toNat_natCast, show min i IntKind.u8.bits = i from Nat.min_eq_left (by show i ≤ 8; omega)]
  push_cast
  rfl
theorem u64n {n : Nat} (h : n < 18446744073709551616) : IntKind.u64.wrap (n : Int) = (n : Int) := wraps_u64 _ (by omega) (by omega)
theorem w64n {n : Nat} (h : n < 9223372036854775808) : wrap64 (n : Int) = (n : Int) := by unfold wrap64; omega
theorem user_step {l : List Int} (h : ∀ x ∈ l, 0 ≤ x ∧ x ≤ 255) (k : Nat) (c : Int) (us : List S33) (i : Nat) (hi : i < 5) (hu : us.length ≤ 5) :
    wicketmanlaw16_State.l0 (k + 1) l (cpyL (List.replicate 6 0) l) (i : Int) c us = wicketmanlaw16_State.l0 k l (cpyL (List.replicate 6 0) l) ((i + 1 : Nat) : Int) c (us ++ (genUser l i).toList) := by
  have hL : (cpyL (List.replicate 6 0) l).length = 6 := by rw [cpyL_length, List.length_replicate]
  have a1 : (i : Int) < 5 := by omega
  have a2 : (0 : Int) ≤ i := by omega
  have a4 : (i : Int) < ((List.replicate 32 (0 : Int)).length : Int) := by rw [List.length_replicate]; omega
  have a5 : us.length < 1466015503701 := by omega
  have a6 : i < 8 := by omega
  have h1 := ch255 h 1
  have h2 := ch255 h 2
  have h3 := ch255 h 3
  have hw := u64n (n := i) (by omega)
  have h9 := w64n (n := ch l 2 % 9) (by omega)
  have h10 := u64n (n := ch l 3) (by omega)
  have hs : wrap64 ((i : Int) + 1) = ((i + 1 : Nat) : Int) := by rw [w64n (n := i + 1) (by omega) |>.symm]; push_cast; rfl
  have r1 : rd (cpyL (List.replicate 6 0) l) 1 = ((ch l 1 : Nat) : Int) := cpy_rd h 6 (j := 1) (by decide)
  have r2 : rd (cpyL (List.replicate 6 0) l) 2 = ((ch l 2 : Nat) : Int) := cpy_rd h 6 (j := 2) (by decide)
  have r3 : rd (cpyL (List.replicate 6 0) l) 3 = ((ch l 3 : Nat) : Int) := cpy_rd h 6 (j := 3) (by decide)
  have r4 : rd (cpyL (List.replicate 6 0) l) 4 = ((ch l 4 : Nat) : Int) := cpy_rd h 6 (j := 4) (by decide)
  have ht9 : Int.tmod (((ch l 2 : Nat) : Int)) 9 = ((ch l 2 % 9 : Nat) : Int) := (Int.ofNat_tmod _ 9).symm
  have p1 : (1 : Int) < ((6 : Nat) : Int) := by decide
  have p2 : (2 : Int) < ((6 : Nat) : Int) := by decide
  have p3 : (3 : Int) < ((6 : Nat) : Int) := by decide
  have p4 : (4 : Int) < ((6 : Nat) : Int) := by decide
  have p16 : 16 ≤ 281474976710656 := by decide
  have p32 : 32 ≤ 281474976710656 := by decide
  obtain ⟨q, hq⟩ : ∃ q, q = ch l 1 / 2 ^ i := ⟨_, rfl⟩
  have ht : Int.tmod ((q : Nat) : Int) 2 = ((q % 2 : Nat) : Int) := (Int.ofNat_tmod _ 2).symm
  have hsh : shr .u8 ((ch l 1 : Nat) : Int) (i : Int) = ((q : Nat) : Int) := by rw [hq]; exact shr_u8 _ _ a6
  conv => lhs; unfold wicketmanlaw16_State.l0
  rw [hL, if_pos a1, if_pos p1, hw, if_pos a2, r1, hsh, ht]
  by_cases d : q % 2 = 1
  · have e : genUser l i = some ⟨nmT i, List.replicate 16 0, (List.replicate 32 0).set i ((ch l 4 : Nat) : Int), ⟨#[]⟩, ((ch l 2 % 9 : Nat) : Int), ((ch l 3 : Nat) : Int)⟩ := by unfold genUser; rw [← hq, if_pos d]
    rw [if_pos (by rw [d]; rfl), nmt_all i hi, Option.bind_some, if_pos p16, if_pos p32, Option.bind_some, if_pos p2, if_pos p3, if_pos p4, if_pos a2, if_pos a4, if_pos a5]
    rw [hs, r2, r3, r4, ht9, h9, h10, Int.toNat_natCast, e, Option.toList_some]
  · have e : genUser l i = none := by unfold genUser; rw [← hq, if_neg d]
    have dn : ¬ ((q % 2 : Nat) : Int) = 1 := fun hh => d (by exact_mod_cast hh)
    rw [if_neg dn, hs, e, Option.toList_none, List.append_nil]
theorem users_run {l : List Int} (h : ∀ x ∈ l, 0 ≤ x ∧ x ≤ 255) (c : Int) : ∀ (d i : Nat) (k : Nat) (us : List S33), i + d = 5 → us.length ≤ i → wicketmanlaw16_State.l0 (k + d + 1) l (cpyL (List.replicate 6 0) l) (i : Int) c us = wicketmanlaw16_State.l1 k l 0 c (us ++ (List.range' i d).filterMap (genUser l)) []
  | 0, i, k, us, e, hu => by
    obtain rfl : i = 5 := by omega
    unfold wicketmanlaw16_State.l0
    rw [if_neg (by decide)]
    simp
  | d + 1, i, k, us, e, hu => by
    have ho : (genUser l i).toList.length ≤ 1 := by cases genUser l i <;> simp
    rw [show k + (d + 1) + 1 = k + d + 1 + 1 by omega, user_step h (k + d + 1) c us i (by omega) (by omega), users_run h c d (i + 1) k _ (by omega) (by rw [List.length_append]; omega)]
    rw [List.range'_succ, List.filterMap_cons, List.append_assoc]
    cases genUser l i <;> simp
theorem sess_step {l : List Int} (h : ∀ x ∈ l, 0 ≤ x ∧ x ≤ 255) (k : Nat) (c : Int) (us : List S33) (ss : List S31) (i : Nat) (hi : i < 16) (hu : us.length ≤ 5) (hss : ss.length ≤ 16) :
    wicketmanlaw16_State.l1 (k + 2) l (i : Int) c us ss = wicketmanlaw16_State.l1 k l ((i + 1 : Nat) : Int) c us (ss ++ (genSess us l i).toList) := by
  have hs : wrap64 ((i : Int) + 1) = ((i + 1 : Nat) : Int) := by rw [w64n (n := i + 1) (by omega) |>.symm]; push_cast; rfl
  have h1 := ch255 h i
  have step : wicketmanlaw16_State.l1 (k + 2) l (i : Int) c us ss = wicketmanlaw16_State.j2 (k + 1) l (i : Int) ((ch l i : Nat) : Int) c us ss := by
    conv => lhs; unfold wicketmanlaw16_State.l1
    rw [if_pos (by omega)]
    by_cases d : i < l.length
    · have hx := h _ (List.getElem_mem d)
      have e : rd l (i : Int) = ((ch l i : Nat) : Int) := by
        unfold rd ch
        rw [Int.toNat_natCast, List.getD_eq_getElem?_getD, List.getElem?_eq_getElem d]
        show l[i] = ((l[i].toNat : Nat) : Int)
        omega
      rw [if_pos (by omega), if_pos (by omega), e, w64n (by omega)]
    · have e : ch l i = 0 := by
        unfold ch
        rw [List.getD_eq_getElem?_getD, List.getElem?_eq_none (by omega)]; rfl
      rw [if_neg (by omega), e]
      rfl
  rw [step]
  generalize hn : ch l i = n at h1 ⊢
  have t3 : Int.tmod ((n : Nat) : Int) 3 = ((n % 3 : Nat) : Int) := (Int.ofNat_tmod _ 3).symm
  have t4 : Int.tmod ((n : Nat) : Int) 4 = ((n % 4 : Nat) : Int) := (Int.ofNat_tmod _ 4).symm
  have t5 : Int.tmod ((n : Nat) : Int) 5 = ((n % 5 : Nat) : Int) := (Int.ofNat_tmod _ 5).symm
  have t7 : Int.tmod ((n : Nat) : Int) 7 = ((n % 7 : Nat) : Int) := (Int.ofNat_tmod _ 7).symm
  have t40 : Int.tmod ((n : Nat) : Int) 40 = ((n % 40 : Nat) : Int) := (Int.ofNat_tmod _ 40).symm
  have tu : Int.tmod ((n : Nat) : Int) (us.length : Int) = ((n % us.length : Nat) : Int) := (Int.ofNat_tmod _ _).symm
  have s47 : wrap64 (((n % 40 : Nat) : Int) + ((n % 7 : Nat) : Int)) = ((n % 40 + n % 7 : Nat) : Int) := by unfold wrap64; omega
  have d5 : (((n % 5 : Nat) : Int) == 4) = decide (n % 5 = 4) := by
    by_cases e : n % 5 = 4
    · rw [e]; rfl
    · rw [decide_eq_false e, beq_eq_false_iff_ne]; omega
  conv => lhs; unfold wicketmanlaw16_State.j2
  rw [t3, hs]
  unfold genSess
  rw [hn]
  by_cases d : n % 3 = 0
  · rw [if_pos (by rw [d]; rfl), if_pos d, Option.toList_none, List.append_nil]
  · rw [if_neg (by omega), if_neg d, idt_all i hi, Option.bind_some, t4, t40, t7, t5, tu, s47, d5, u64n (by omega), u64n (by omega)]
    by_cases du : 0 < us.length
    · rw [if_pos (by omega)]
      by_cases d4 : 0 < n % 4
      · rw [if_pos (by omega), if_neg (by omega), if_pos (by omega), if_pos (by have := Nat.mod_lt n du; omega), if_pos (by omega), if_pos ⟨du, d4⟩, Option.toList_some]
      · rw [if_neg (by omega), if_pos (by omega), if_neg (fun hh => d4 hh.2), Option.toList_some]
    · rw [if_neg (by omega), if_pos (by omega), if_neg (fun hh => du hh.1), Option.toList_some]
theorem sess_run {l : List Int} (h : ∀ x ∈ l, 0 ≤ x ∧ x ≤ 255) (c : Int) (us : List S33) (hu : us.length ≤ 5) : ∀ (d i : Nat) (k : Nat) (ss : List S31), i + d = 16 → ss.length ≤ i → wicketmanlaw16_State.l1 (k + 2 * d + 1) l (i : Int) c us ss = some (c, us, ss ++ (List.range' i d).filterMap (genSess us l))
  | 0, i, k, ss, e, hss => by
    obtain rfl : i = 16 := by omega
    unfold wicketmanlaw16_State.l1
    rw [if_neg (by decide)]
    simp
  | d + 1, i, k, ss, e, hss => by
    have ho : (genSess us l i).toList.length ≤ 1 := by cases genSess us l i <;> simp
    rw [show k + 2 * (d + 1) + 1 = (k + 2 * d + 1) + 2 by omega, sess_step h (k + 2 * d + 1) c us ss i (by omega) hu (by omega), sess_run h c us hu d (i + 1) k _ (by omega) (by rw [List.length_append]; omega)]
    rw [List.range'_succ, List.filterMap_cons, List.append_assoc]
    cases genSess us l i <;> simp
theorem state_gen {l : List Int} (h : ∀ x ∈ l, 0 ≤ x ∧ x ≤ 255) : wicketmanlaw16_State.f 39 l = stateG l := by
  unfold wicketmanlaw16_State.f stateG
  have h0 := ch255 h 0
  have hul : (genUsers l).length ≤ 5 := Nat.le_trans (List.length_filterMap_le _ _) (by decide)
  have r0 := cpy_rd h 6 (j := 0) (by decide)
  have hL : (cpyL (List.replicate 6 0) l).length = 6 := by rw [cpyL_length, List.length_replicate]
  rw [if_pos (by decide), Option.bind_some, if_pos (by rw [hL]; decide), show rd (cpyL (List.replicate 6 0) l) 0 = ((ch l 0 : Nat) : Int) from r0, u64n (by omega), if_pos h]
  have hr := users_run h ((ch l 0 : Nat) : Int) 5 0 33 [] rfl (Nat.le_refl _)
  refine hr.trans ?_
  rw [List.nil_append, ← List.range_eq_range', show List.filterMap (genUser l) (List.range 5) = genUsers l from rfl]
  refine (sess_run h ((ch l 0 : Nat) : Int) (genUsers l) hul 16 0 0 [] rfl (Nat.le_refl _)).trans ?_
  rw [List.nil_append, ← List.range_eq_range']
  rfl
end Go.Proofs.YtnlhomgclplnhaaDoor.E


/- CodeRight, plain: a generated state may be, each turned one may not. -/
namespace Go.Proofs.YtnlhomgclplnhaaDoor.Pure
open Go.RowKit Go.Proofs.YtnlhomgclplnhaaDoor.Pr Go.Proofs.YtnlhomgclplnhaaDoor.E Go.Proofs.YtnlhomgclplnhaaDoorW.PrintWords Go.Proofs.YtnlhomgclplnhaaDoorW.PrintLast
set_option linter.unusedVariables false
set_option linter.unusedSimpArgs false
theorem less_total : ∀ x y : List UInt8, Op.bytesLess x y = false → (x == y) = false → Op.bytesLess y x = true
  | [], [], _, h => by simp at h
  | _ :: _, [], _, _ => rfl
  | [], _ :: _, h, _ => by simp [Op.bytesLess] at h
  | a :: x, b :: y, h1, h2 => by
    simp only [Op.bytesLess, Bool.or_eq_false_iff, decide_eq_false_iff_not, Bool.and_eq_false_iff, beq_eq_false_iff_ne] at h1
    simp only [Op.bytesLess, Bool.or_eq_true, decide_eq_true_eq, Bool.and_eq_true, beq_iff_eq]
    by_cases e : a = b
    · subst e
      right
      refine ⟨rfl, less_total x y (h1.2.resolve_left (fun h => h rfl)) ?_⟩
      rw [beq_eq_false_iff_ne] at h2 ⊢
      intro h
      exact h2 (by rw [h])
    · left
      have h3 := h1.1
      have h4 : a.toNat ≠ b.toNat := fun h => e (UInt8.toNat_inj.1 h)
      rw [UInt8.lt_iff_toNat_lt] at h3 ⊢
      omega
theorem leS_total {a b : ByteArray} (h : leS a b = false) : leS b a = true := by
  unfold leS at h ⊢
  rw [Bool.or_eq_false_iff] at h
  rw [less_total _ _ h.1 h.2, Bool.true_or]
theorem sess_up {ns : List ByteArray} {last : ByteArray} {A B : List S31} {u v : S31} (h : sessesGood ns last (A ++ u :: v :: B) = true) : leS u.f0 v.f0 = true := by
  apply leS_total
  rw [← Bool.not_eq_true]
  intro c
  rw [sesses_bad ns A last u v B c] at h
  cases h
theorem split_two {α : Type} [Inhabited α] {l : List α} {k : Nat} (h : k + 1 < l.length) : l = l.take k ++ l[k] :: l[k + 1] :: l.drop (k + 2) := by
  rw [← List.drop_eq_getElem_cons h, ← List.drop_eq_getElem_cons (by omega : k < l.length), List.take_append_drop]
theorem set_two {α : Type} (A B : List α) (x y : α) : ((A ++ x :: y :: B).set A.length y).set (A.length + 1) x = A ++ y :: x :: B := by
  rw [List.set_append_right _ _ (Nat.le_refl _), Nat.sub_self, List.set_cons_zero, List.set_append_right _ _ (by omega)]
  rw [show A.length + 1 - A.length = 1 by omega]
  rfl
theorem known_true : wicketmanlaw16_known.f = some true := by decide +kernel
theorem j0_bad {c : Int} (hc : 0 ≤ c) {us us' : List S33} {ss ss' : List S31} (hu : ∀ u ∈ us, GUOk u) (hs : ∀ u ∈ ss, GSOk u) (hu' : ∀ u ∈ us', GUOk u) (hs' : ∀ u ∈ ss', GSOk u)
    (hl : us'.length ≤ 100) (hl2 : ss'.length ≤ 100) (good : rightL us ss = true) (bad : rightL us' ss' = false) : wicketmanlaw16_CodeRight.j0 39 c us ss c us' ss' = some true := by
  unfold wicketmanlaw16_CodeRight.j0
  dsimp only
  rw [state_some c hc hu' hs' hl hl2, Option.bind_some, known_true, Option.bind_some, if_pos rfl, right_some c hu hs, Option.bind_some, if_pos good, right_some c hu' hs', Option.bind_some, if_neg (by rw [bad]; decide)]
  unfold stateR
  rw [if_neg (by rw [bad]; decide)]
  rfl
theorem rdS {ss : List S31} {n : Nat} (h : n < ss.length) : rd_T31 ss ((n : Nat) : Int) = ss[n] := by
  unfold rd_T31
  rw [Int.toNat_natCast, List.getD_eq_getElem?_getD, List.getElem?_eq_getElem h]
  rfl
theorem rdU {ss : List S33} {n : Nat} (h : n < ss.length) : rd_T33 ss ((n : Nat) : Int) = ss[n] := by
  unfold rd_T33
  rw [Int.toNat_natCast, List.getD_eq_getElem?_getD, List.getElem?_eq_getElem h]
  rfl
theorem split_one {α : Type} {l : List α} {k : Nat} (h : k < l.length) (v : α) : l.set k v = l.take k ++ v :: l.drop (k + 1) := List.set_eq_take_append_cons_drop .. |>.trans (by rw [if_pos h])
set_option maxHeartbeats 4000000 in
theorem CodeRight : wicketmanlaw16_CodeRight.Pure := by
  intro l0 a1 a2 _ _ hw hw1 hw2
  have hb : ∀ x ∈ l0, 0 ≤ x ∧ x ≤ 255 := fun x hx => wf_u8 (hw x hx)
  have hb1 : 0 ≤ a1 ∧ a1 ≤ 255 := wf_u8 hw1
  have hb2 : 0 ≤ a2 ∧ a2 ≤ 255 := wf_u8 hw2
  refine ⟨39, ?_⟩
  have hU := users_ok hb
  have hS := sesses_ok hb
  have lU := len_users l0
  have lS := len_sesses l0
  have good := right_gen l0
  have sgood := sesses_good l0
  have nob := nobody_out l0
  have eS : wicketmanlaw16_State.f 39 l0 = some (((ch l0 0 : Nat) : Int), genUsers l0, genSesses l0) := by rw [state_gen hb]; unfold stateG; rw [if_pos hb]
  have h0 : (0 : Int) ≤ ((ch l0 0 : Nat) : Int) := Int.natCast_nonneg _
  unfold wicketmanlaw16_CodeRight.f
  rw [eS]
  dsimp only [Option.bind_some]
  clear eS hb hw
  generalize ((ch l0 0 : Nat) : Int) = c at h0 ⊢
  generalize genUsers l0 = us at hU lU good sgood nob ⊢
  generalize genSesses l0 = ss at hS lS good sgood ⊢
  obtain ⟨n, rfl⟩ : ∃ n : Nat, a2 = (n : Int) := ⟨a2.toNat, by omega⟩
  replace hU := Aside0.mk hU
  replace hS := Aside0.mk hS
  replace good := Aside0.mk good
  replace sgood := Aside0.mk sgood
  replace nob := Aside0.mk nob
  rw [show wrap64 (n : Int) = (n : Int) by unfold wrap64; omega]
  by_cases d0 : Int.tmod a1 4 = 0
  · rw [if_pos d0]
    by_cases e : (ss.length : Int) < 2
    · rw [if_pos e, known_true]; rfl
    · obtain ⟨m, hm⟩ : ∃ m, ss.length = m + 2 := ⟨ss.length - 2, by omega⟩
      have e1 : wrap64 ((ss.length : Int) - 1) = ((m + 1 : Nat) : Int) := by unfold wrap64; omega
      have e2 : Int.tmod (n : Int) ((m + 1 : Nat) : Int) = ((n % (m + 1) : Nat) : Int) := (Int.ofNat_tmod n (m + 1)).symm
      have e3 : n % (m + 1) < m + 1 := Nat.mod_lt _ (by omega)
      have e0 : ¬ ((m + 1 : Nat) : Int) = 0 := by omega
      rw [if_neg e, e1, if_neg e0, e2]
      clear e2 e1
      generalize n % (m + 1) = k at e3 ⊢
      have q1 : (0 : Int) ≤ ((k : Nat) : Int) := by omega
      have q2 : ((k : Nat) : Int) < (ss.length : Int) := by omega
      have q3 : (0 : Int) ≤ ((k + 1 : Nat) : Int) := by omega
      have q4 : ((k + 1 : Nat) : Int) < (ss.length : Int) := by omega
      have e4 : wrap64 (((k : Nat) : Int) + 1) = ((k + 1 : Nat) : Int) := by unfold wrap64; omega
      rw [if_pos q1, if_pos q2, e4, if_pos q3, if_pos q4]
      clear e4
      have hk : k + 1 < ss.length := by omega
      rw [rdS hk, rdS (by omega : k < ss.length), Int.toNat_natCast, Int.toNat_natCast]
      have hA : (ss.take k).length = k := by rw [List.length_take]; omega
      have hset : (ss.set k ss[k + 1]).set (k + 1) ss[k] = ss.take k ++ ss[k + 1] :: ss[k] :: ss.drop (k + 2) := by
        have := set_two (ss.take k) (ss.drop (k + 2)) ss[k] ss[k + 1]
        rw [hA, ← List.drop_eq_getElem_cons hk, ← List.drop_eq_getElem_cons (by omega : k < ss.length), List.take_append_drop] at this
        exact this
      show wicketmanlaw16_CodeRight.j0 39 c us ss c us ((ss.set k ss[k + 1]).set (k + 1) ss[k]) = some true
      have hss : ss = ss.take k ++ ss[k] :: ss[k + 1] :: ss.drop (k + 2) := by
        rw [← List.drop_eq_getElem_cons hk, ← List.drop_eq_getElem_cons (by omega : k < ss.length), List.take_append_drop]
      refine j0_bad h0 hU.out hS.out hU.out ?_ (by omega) (by rw [List.length_set, List.length_set]; omega) good.out ?_
      · intro u hu
        rcases List.mem_or_eq_of_mem_set hu with hu | rfl
        · rcases List.mem_or_eq_of_mem_set hu with hu | rfl
          · exact hS.out u hu
          · exact hS.out _ (List.getElem_mem _)
        · exact hS.out _ (List.getElem_mem _)
      · rw [hset]
        refine right_sesses (sesses_bad _ _ _ _ _ _ ?_)
        have sg := sgood.out
        rw [hss] at sg
        exact sess_up sg
  · rw [if_neg d0]
    by_cases d1 : Int.tmod a1 4 = 1
    · rw [if_pos d1]
      by_cases e : (us.length : Int) = 0
      · rw [if_pos e, known_true]; rfl
      · obtain ⟨m, hm⟩ : ∃ m, us.length = m + 1 := ⟨us.length - 1, by omega⟩
        have q1 : (0 : Int) ≤ ((m : Nat) : Int) := by omega
        have q2 : ((m : Nat) : Int) < (us.length : Int) := by omega
        have q3 : us.length < 1466015503701 := by omega
        have e1 : wrap64 ((us.length : Int) - 1) = ((m : Nat) : Int) := by unfold wrap64; omega
        rw [if_neg e, e1, if_pos q1, if_pos q2, if_pos q3]
        clear e1
        rw [rdU (by omega : m < us.length)]
        have hml : m < us.length := by omega
        show wicketmanlaw16_CodeRight.j0 39 c us ss c (us ++ [us[m]]) ss = some true
        have hus : us = us.take m ++ [us[m]] := by
          rw [← List.take_succ_eq_append_getElem hml, List.take_of_length_le (by omega)]
        refine j0_bad h0 hU.out hS.out ?_ hS.out (by rw [List.length_append]; simp only [List.length_singleton]; omega) (by omega) good.out (right_users ?_)
        · intro u hu
          rcases List.mem_append.1 hu with hu | hu
          · exact hU.out u hu
          · rw [List.mem_singleton.1 hu]; exact hU.out _ (List.getElem_mem _)
        · have e5 : us ++ [us[m]] = us.take m ++ us[m] :: us[m] :: [] := by
            conv => lhs; lhs; rw [hus]
            rw [List.append_assoc]; rfl
          rw [e5]
          exact users_bad _ _ _ _ _ (leS_self _)
    · rw [if_neg d1]
      by_cases e : (ss.length : Int) = 0
      · rw [known_true]
        rw [if_pos e, if_pos e]
        split <;> rfl
      · have e2 : Int.tmod (n : Int) (ss.length : Int) = ((n % ss.length : Nat) : Int) := (Int.ofNat_tmod n ss.length).symm
        have e3 : n % ss.length < ss.length := Nat.mod_lt _ (by omega)
        rw [if_neg e, if_neg e, e2]
        clear e2
        generalize n % ss.length = k at e3 ⊢
        have q1 : (0 : Int) ≤ ((k : Nat) : Int) := by omega
        have q2 : ((k : Nat) : Int) < (ss.length : Int) := by omega
        rw [if_pos q1, if_pos q2, if_pos q1, if_pos q2, rdS e3, Int.toNat_natCast]
        by_cases d2 : Int.tmod a1 4 = 2
        · rw [if_pos d2]
          refine j0_bad h0 hU.out hS.out hU.out ?_ (by omega) (by rw [List.length_set]; omega) good.out (right_sesses ?_)
          · intro u hu
            rcases List.mem_or_eq_of_mem_set hu with hu | rfl
            · exact hS.out u hu
            · have := hS.out _ (List.getElem_mem e3)
              exact ⟨this.n0, (by decide : 6 ≤ 64), this.h2, this.h3⟩
          · rw [split_one e3]
            exact sesses_bad1 _ _ _ _ _ (Or.inr nob.out)
        · rw [if_neg d2]
          refine j0_bad h0 hU.out hS.out hU.out ?_ (by omega) (by rw [List.length_set]; omega) good.out (right_sesses ?_)
          · intro u hu
            rcases List.mem_or_eq_of_mem_set hu with hu | rfl
            · exact hS.out u hu
            · have := hS.out _ (List.getElem_mem e3)
              exact ⟨(by decide : 2 ≤ 64), this.n1, this.h2, this.h3⟩
          · rw [split_one e3]
            exact sesses_bad1 _ _ _ _ _ (Or.inl id_bad)
theorem u8_wf {a : Int} (h : 0 ≤ a ∧ a ≤ 255) : (Lit.int .u8 a).wf = true := by simpa [Lit.wf, IntKind.min, IntKind.max, IntKind.signed, IntKind.bits] using h
theorem CodeRight_at (W : World) (A0 : Option Addr) (c0 : Nat) (l0 : List Int) (hr0 : Kd.C (Kd.int .u8) W A0 l0.length l0) (hc0 : l0.length ≤ c0) (hb0 : ∀ x ∈ l0, 0 ≤ x ∧ x ≤ 255) (hl0 : l0.length ≤ 140737488351232) (a1 : Int) (w1 : (Lit.int .u8 a1).wf = true) (a2 : Int) (w2 : (Lit.int .u8 a2).wf = true) (hG : RootsIn W) :
    Calls Tryd.prog 3 #[.slice A0 l0.length c0, .int .u8 a1, .int .u8 a2] W fun e w' => e = .returned (.bool true) ∧ Below W.heap.size W w' := by
  obtain ⟨k, hk⟩ := CodeRight l0 a1 a2 (by unfold maxLen; omega) (by omega) (fun x hx => u8_wf (hb0 x hx)) w1 w2
  exact wicketmanlaw16_CodeRight.calls k A0 c0 l0 a1 a2 true W hr0 hc0 hk hG
end Go.Proofs.YtnlhomgclplnhaaDoor.Pure


/- A slice of rows of bytes that comes in, opened: as rows that the walk reads, and of what bulk. -/
namespace Go.Proofs.YtnlhomgclplnhaaDoor.E
open Go.ChangeShapes Go.WideShapes Go.Deep Go.Proofs.YtnlhomgclplnhaaDoorW.PrintWords
theorem bulk_one {H : Type} (d : DataW H) : 1 ≤ Rows.uptoBulk d := by
  cases d with
  | lit l => cases l <;> simp [Rows.uptoBulk]
  | nil => simp [Rows.uptoBulk]
  | ptr d => simp [Rows.uptoBulk]
  | slice elems spare => simp [Rows.uptoBulk]
  | agg parts => simp [Rows.uptoBulk]
  | iface t d => simp [Rows.uptoBulk]
  | map entries => simp [Rows.uptoBulk]
  | held h => simp [Rows.uptoBulk]
theorem bulk_len {H : Type} (l : List (DataW H)) : l.length ≤ Rows.uptoBulkAll l := by
  induction l with
  | nil => simp [Rows.uptoBulkAll]
  | cons x r ih => have := bulk_one x; simp only [Rows.uptoBulkAll, List.length_cons]; omega
theorem bulk_le {H : Type} {d : DataW H} {l : List (DataW H)} (h : d ∈ l) : Rows.uptoBulk d ≤ Rows.uptoBulkAll l := by
  induction l with
  | nil => cases h
  | cons x r ih =>
    simp only [Rows.uptoBulkAll]
    rcases List.mem_cons.1 h with rfl | e
    · omega
    · have := ih e; omega
variable {H : Type} {enc : TypeId × Value → H} {P : Program} {W : World}
theorem row_ints {t e : TypeId} {fuel : Nat} {v : Value} {x : DataW H × List MemPlace} (ht : P.underlying t = some (.slice e)) (he : P.underlying e = some (.int .u8)) (hc : P.cellsOf e = 1) (h : DataW.trod enc P W 0 (fun _ => true) true fuel t [v] = some x) :
    ∃ (A : Option Addr) (c : Nat) (zs : List Int), v = .slice A zs.length c ∧ zs.length ≤ c ∧ Kd.C (Kd.int .u8) W A zs.length zs ∧ (∀ n ∈ zs, 0 ≤ n ∧ n ≤ 255) ∧ zs.length + 1 ≤ Rows.uptoBulk x.1 := by
  rcases open_ints ht he hc h with ⟨hcs, rfl⟩ | ⟨a, len, cap, zs, hcs, hb, hl, hm, hz, rfl, hcell, hwz⟩
  · obtain rfl : v = .slice none 0 0 := by simpa using hcs
    exact ⟨none, 0, [], rfl, Nat.le_refl _, ⟨rfl, by decide, fun h => absurd h (by decide)⟩, fun n hn => (by cases hn), bulk_one _⟩
  · obtain rfl : v = .slice (some a) len cap := by simpa using hcs
    have hzl : zs.length = cap := by simpa using hz
    have htl : (zs.take len).length = len := by rw [List.length_take]; omega
    refine ⟨some a, cap, zs.take len, by rw [htl], by omega, ?_, ?_, ?_⟩
    · rw [htl]
      refine ⟨htl, by unfold maxLen at hm; omega, fun _ => ⟨a, rfl, fun j p hj => ⟨[.int .u8 p], rfl, rfl, fun i u hu => ?_⟩⟩⟩
      have hj2 : j < len := by have := (List.getElem?_eq_some_iff.1 hj).1; omega
      have hi : i = 0 := by have := (List.getElem?_eq_some_iff.1 hu).1; simpa using this
      subst hi
      obtain rfl : Value.int .u8 p = u := by simpa using hu
      have h1 := hcell j (by omega)
      have h2 : zs.getD j 0 = p := by
        rw [List.getElem?_take_of_lt hj2] at hj
        rw [List.getD_eq_getElem?_getD, hj]; rfl
      have h3 : a.add (j * (Kd.int IntKind.u8).sz + 0) = a.add j := by rw [Nat.add_zero, show (Kd.int IntKind.u8).sz = 1 from rfl, Nat.mul_one]
      rw [h3, h1, h2]
    · intro n hn
      have := hwz n (List.mem_of_mem_take hn)
      simpa [Lit.wf, IntKind.min, IntKind.max, IntKind.signed, IntKind.bits] using this
    · show _ ≤ Rows.uptoBulk (DataW.slice _ _)
      have := bulk_len (lits (H := H) IntKind.u8 (zs.take len))
      have h4 : (lits (H := H) IntKind.u8 (zs.take len)).length = (zs.take len).length := by simp [lits]
      simp only [Rows.uptoBulk]
      omega
theorem row_in {t e : TypeId} {A : Option Addr} {len c : Nat} {d : DataW H} {ps : List MemPlace} (ht : P.underlying t = some (.slice e)) (he : P.underlying e = some (.int .u8)) (hc : P.cellsOf e = 1) (h : DataW.Trod enc P W 0 (fun _ => true) true t (.slice A len c) d ps) :
    ∃ l : List Int, len ≤ c ∧ Kd.C (Kd.int .u8) W A l.length l ∧ (∀ n ∈ l, 0 ≤ n ∧ n ≤ 255) ∧ l.length = len := by
  obtain ⟨fuel, hf⟩ := h
  obtain ⟨A', c', zs, hv, hl, hC, hb, _⟩ := row_ints ht he hc (v := .slice A len c) (by simpa [Value.cells] using hf)
  injection hv with e1 e2 e3
  subst e1; subst e2; subst e3
  exact ⟨zs, hl, hC, hb, rfl⟩
theorem open_rows {t e b : TypeId} {a : Option Addr} {len cap : Nat} {d : DataW H} {ps : List MemPlace} (ht : P.underlying t = some (.slice e)) (hte : P.underlying e = some (.slice b)) (hb : P.underlying b = some (.int .u8)) (hce : P.cellsOf e = 1) (hcb : P.cellsOf b = 1)
    (h : DataW.Trod enc P W 0 (fun _ => true) true t (.slice a len cap) d ps) :
    ∃ rows : List (List Int), rows.length = len ∧ len ≤ cap ∧ Kd.C (Kd.slice b (Kd.int .u8)) W a rows.length rows ∧ (∀ r ∈ rows, ∀ n ∈ r, 0 ≤ n ∧ n ≤ 255) ∧ (rows.map fun l => 1 + l.length).sum ≤ Rows.uptoBulk d := by
  obtain ⟨fuel, hf⟩ := h
  rcases open_slice1 ht hce hf with ⟨hcs, hx⟩ | ⟨ad, l, c, m, n, V, D, Pl, hcs, _, hl, hm, hmm, hx, hv⟩
  · simp [Value.cells] at hcs
    obtain ⟨rfl, rfl, rfl⟩ := hcs
    exact ⟨[], rfl, Nat.le_refl _, ⟨rfl, by decide, fun h => absurd h (by decide)⟩, fun r hr => (by cases hr), by simp⟩
  · simp [Value.cells] at hcs
    obtain ⟨rfl, rfl, rfl⟩ := hcs
    obtain ⟨rfl, _⟩ := Prod.mk.inj hx
    have hmc : m = cap := by simpa using hmm
    obtain ⟨f, hfr⟩ := choose_lt (α := List Int) (n := len) (p := fun i zs => ∃ (A : Option Addr) (c : Nat), V i = .slice A zs.length c ∧ zs.length ≤ c ∧ Kd.C (Kd.int .u8) W A zs.length zs ∧ (∀ n ∈ zs, 0 ≤ n ∧ n ≤ 255) ∧ zs.length + 1 ≤ Rows.uptoBulk (D i)) (fun i hi => by
      obtain ⟨h1, h2⟩ := hv i (by omega)
      obtain ⟨A, c, zs, h3⟩ := row_ints hte hb hcb h2
      exact ⟨zs, A, c, h3⟩)
    have hlen : ((List.range len).map f).length = len := by simp
    refine ⟨(List.range len).map f, hlen, hl, ?_, ?_, ?_⟩
    · rw [hlen]
      refine ⟨hlen, by unfold maxLen at hm; omega, fun _ => ⟨ad, rfl, fun j p hj => ?_⟩⟩
      have hj2 : j < len := by have := (List.getElem?_eq_some_iff.1 hj).1; omega
      obtain rfl : f j = p := by
        rw [List.getElem?_map, List.getElem?_range hj2] at hj
        simpa using hj
      obtain ⟨A, c, h1, h2, h3, _⟩ := hfr j hj2
      refine ⟨[V j], rfl, ⟨A, c, by rw [h1], h2, h3⟩, fun i u hu => ?_⟩
      have hi : i = 0 := by have := (List.getElem?_eq_some_iff.1 hu).1; simpa using this
      subst hi
      obtain rfl : V j = u := by simpa using hu
      have h3 : ad.add (j * (Kd.slice b (Kd.int IntKind.u8)).sz + 0) = ad.add j := by rw [Nat.add_zero, show (Kd.slice b (Kd.int IntKind.u8)).sz = 1 from rfl, Nat.mul_one]
      rw [h3]
      exact (hv j (by omega)).1
    · intro r hr
      obtain ⟨i, hi, rfl⟩ := List.mem_map.1 hr
      obtain ⟨_, _, _, _, _, h, _⟩ := hfr i (List.mem_range.1 hi)
      exact h
    · have key : ∀ ls : List Nat, (∀ i ∈ ls, i < len) → ((ls.map f).map fun l => 1 + l.length).sum ≤ Rows.uptoBulkAll (ls.map D) := by
        intro ls
        induction ls with
        | nil => intro _; simp
        | cons i ls ih =>
          intro h
          obtain ⟨_, _, _, _, _, _, h5⟩ := hfr i (h i List.mem_cons_self)
          have := ih fun j hj => h j (List.mem_cons_of_mem _ hj)
          simp only [List.map_cons, List.sum_cons, Rows.uptoBulkAll]
          omega
      have := key (List.range len) (fun i hi => List.mem_range.1 hi)
      simp only [Rows.uptoBulk]
      omega
end Go.Proofs.YtnlhomgclplnhaaDoor.E

