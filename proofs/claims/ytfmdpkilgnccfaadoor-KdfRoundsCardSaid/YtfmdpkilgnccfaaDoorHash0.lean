/- kdf.rounds, kdf.Hash's closure, and the iterator. -/
import Derived.Test.YtfmdpkilgnccfaaDoorCode
namespace Go.Proofs.YtfmdpkilgnccfaaDoor.E
open Go.RowKit Go.Shelf Go.Proofs.YtfmdpkilgnccfaaDoorW.PrintWords Go.Proofs.YtfmdpkilgnccfaaDoorW.PrintLast Go.Proofs.YtfmdpkilgnccfaaDoorW.PrintMore Go.Proofs.YtfmdpkilgnccfaaDoor.Pr
attribute [local go_sem] Oper.semAt_some
set_option linter.unusedVariables false
set_option linter.unusedSimpArgs false
def uL (pass salt : List Int) : Nat → List Int
  | 0 => salt ++ [0, 0, 0, 1]
  | i + 1 => codeL pass (uL pass salt i)
def seqU (pass salt : List Int) (n : Nat) : List (List Int) := (List.range n).map fun i => uL pass salt (i + 1)
def xorRow (a b : List Int) : List Int := (List.range 32).map fun j => (((a.getD j 0).toNat ^^^ (b.getD j 0).toNat : Nat) : Int)
def outL (s : List (List Int)) : List Int := s.foldl xorRow (List.replicate 32 0)
def hashL (pass salt : List Int) (n : Nat) : List Int := outL (seqU pass salt n)
theorem xorRow_len (a b : List Int) : (xorRow a b).length = 32 := by simp [xorRow]
theorem toNat_lt {a : List Int} (h : ∀ x ∈ a, 0 ≤ x ∧ x ≤ 255) (j : Nat) : (a.getD j 0).toNat < 256 := by
  rw [List.getD_eq_getElem?_getD]
  cases hg : a[j]? with
  | none => decide
  | some y => have := h y (List.mem_of_getElem? hg); simp only [Option.getD_some]; omega
theorem xorRow_bytes {a b : List Int} (ha : ∀ x ∈ a, 0 ≤ x ∧ x ≤ 255) (hb : ∀ x ∈ b, 0 ≤ x ∧ x ≤ 255) : ∀ x ∈ xorRow a b, 0 ≤ x ∧ x ≤ 255 := by
  intro x hx
  obtain ⟨j, _, rfl⟩ := List.mem_map.1 hx
  have := Nat.xor_lt_two_pow (n := 8) (toNat_lt ha j) (toNat_lt hb j)
  omega
theorem outL_len : ∀ (s : List (List Int)) (o : List Int), o.length = 32 → (s.foldl xorRow o).length = 32
  | [], o, h => h
  | x :: s, o, h => outL_len s _ (xorRow_len _ _)
theorem outL_bytes : ∀ (s : List (List Int)) (o : List Int), (∀ x ∈ o, 0 ≤ x ∧ x ≤ 255) → (∀ r ∈ s, ∀ x ∈ r, 0 ≤ x ∧ x ≤ 255) → ∀ x ∈ s.foldl xorRow o, 0 ≤ x ∧ x ≤ 255
  | [], o, h, _ => h
  | r :: s, o, h, hs => outL_bytes s _ (xorRow_bytes h (hs r List.mem_cons_self)) (fun q hq => hs q (List.mem_cons_of_mem _ hq))
theorem seqU_succ (pass salt : List Int) (n : Nat) : seqU pass salt (n + 1) = seqU pass salt n ++ [uL pass salt (n + 1)] := by simp [seqU, List.range_succ]
theorem seqU_pre (pass salt : List Int) {i n : Nat} (h : i < n) : seqU pass salt i ++ [uL pass salt (i + 1)] <+: seqU pass salt n := by
  rw [← seqU_succ]
  refine ⟨(List.range (n - (i + 1))).map fun j => uL pass salt (((i + 1) + j) + 1), ?_⟩
  have e : List.range n = List.range (i + 1) ++ (List.range (n - (i + 1))).map fun j => (i + 1) + j := by
    rw [← List.range_add]; congr 1; omega
  unfold seqU
  rw [e, List.map_append, List.map_map]
  rfl
def rowV (o : List Int) : Array Value := (o.map (Value.int .u8)).toArray
def mixL (o u : List Int) (i : Nat) : List Int := (List.range 32).map fun j => if j < i then (((o.getD j 0).toNat ^^^ (u.getD j 0).toNat : Nat) : Int) else o.getD j 0
theorem mix_zero (o u : List Int) (h : o.length = 32) : mixL o u 0 = o := by
  apply List.ext_getElem
  · simp [mixL, h]
  · intro i h1 h2
    simp [mixL, List.getD_eq_getElem?_getD, h2]
theorem mix_all (o u : List Int) : mixL o u 32 = xorRow o u := by
  unfold mixL xorRow
  refine List.map_congr_left fun j hj => ?_
  rw [if_pos (List.mem_range.1 hj)]
theorem mix_at (o u : List Int) (i j : Nat) (h : j < 32) : (mixL o u i)[j]? = some (if j < i then (((o.getD j 0).toNat ^^^ (u.getD j 0).toNat : Nat) : Int) else o.getD j 0) := by
  simp [mixL, h]
theorem mix_set (o u : List Int) (i : Nat) (h : i < 32) : (mixL o u i).set i (((o.getD i 0).toNat ^^^ (u.getD i 0).toNat : Nat) : Int) = mixL o u (i + 1) := by
  apply List.ext_getElem?
  intro j
  rw [List.getElem?_set]
  by_cases hj : j < 32
  · rw [mix_at o u (i + 1) j hj]
    by_cases hij : i = j
    · subst hij
      rw [if_pos rfl, if_pos (by simp [mixL]; omega), if_pos (by omega)]
    · rw [if_neg hij, mix_at o u i j hj]
      by_cases h1 : j < i
      · rw [if_pos h1, if_pos (by omega)]
      · rw [if_neg h1, if_neg (by omega)]
  · have e1 : (mixL o u (i + 1)).length = 32 := by simp [mixL]
    have e2 : (mixL o u i).length = 32 := by simp [mixL]
    rw [if_neg (by omega), List.getElem?_eq_none (by omega), List.getElem?_eq_none (by omega)]
theorem rowV_set (o : List Int) (i : Nat) (x : Int) : (rowV o).setIfInBounds i (.int .u8 x) = rowV (o.set i x) := by
  simp [rowV, List.map_set]
set_option maxHeartbeats 8000000 in
theorem with_any (g b7 : Nat) (o u : List Int) (A : Option Addr) (c : Nat) (X : World) (h7 : X.heap[b7]? = some (.cells #[.slice (some ⟨g, 0, none⟩) 32 32] 22 (0, 0))) (hg : X.heap[g]? = some (.cells (rowV o) 5 (0, 0))) (hne : b7 ≠ g) (ho : o.length = 32)
    (hob : ∀ x ∈ o, 0 ≤ x ∧ x ≤ 255) (hu : Kd.C (Kd.int .u8) X A 32 u) (hub : ∀ x ∈ u, 0 ≤ x ∧ x ≤ 255) (hA : ∀ ad, A = some ad → ad.block ≠ g) :
    Calls Tryd.prog 56 #[.slice A 32 c, .pointer (some ⟨b7, 0, none⟩)] X fun e Y => (∃ v, e = .returned v) ∧ Y.heap[g]? = some (.cells (rowV (xorRow o u)) 5 (0, 0)) ∧ (∀ k, k < X.heap.size → k ≠ g → Y.heap[k]? = X.heap[k]?) ∧ Below g X Y := by
  obtain ⟨ad, rfl, -⟩ := Kd.at_int hu 0 (by decide) (by decide)
  have hadg := hA ad rfl
  have hu32 : u.length = 32 := hu.1
  have c7 : X.cell? ⟨b7, 0, none⟩ = some (.slice (some ⟨g, 0, none⟩) 32 32) := blk_cell h7 0
  have H7 := Aside0.mk h7
  have HG := Aside0.mk (show X.heap[g]? = some (.cells (rowV (mixL o u 0)) 5 (0, 0)) by rw [mix_zero o u ho]; exact hg)
  have HU := Aside0.mk hu
  have HOB := Aside0.mk hob
  have HUB := Aside0.mk hub
  have hlt7 := (Array.getElem?_eq_some_iff.1 h7).1
  have hltg := (Array.getElem?_eq_some_iff.1 hg).1
  have HLT := Aside0.mk (And.intro hlt7 hltg)
  clear h7 hg hu hob hub hA hlt7 hltg
  go_enter Tryd.func56, Tryd.ntmps56
  go_wp2
  go_loopw [6] (fun v6 wr => ∃ i : Nat, i ≤ 32 ∧ v6 = .int .i64 (i : Int) ∧ Aside0 (wr.heap[g]? = some (.cells (rowV (mixL o u i)) 5 (0, 0)) ∧ (∀ k, k < X.heap.size → k ≠ g → wr.heap[k]? = X.heap[k]?) ∧ Below g X wr)) (fun v6 _ => 32 - (intOf v6).toNat)
  case atStart => exact ⟨0, Nat.zero_le _, rfl, ⟨HG.out, fun _ _ _ => rfl, Below.refl _ _⟩⟩
  case round =>
    obtain ⟨i, hi, rfl, ⟨⟨hg, hfar, hbw⟩⟩⟩ := hrel
    by_cases h32 : i < 32
    · have c7 : wr.cell? ⟨b7, 0, none⟩ = some (.slice (some ⟨g, 0, none⟩) 32 32) := blk_cell ((hfar b7 HLT.out.1 hne).trans H7.out) 0
      obtain ⟨_, ea, hx0⟩ := Kd.at_int HU.out (i : Int) (by omega) (by omega)
      cases ea
      rw [Int.toNat_natCast] at hx0
      have hx : wr.cell? (ad.add i) = some (.int .u8 (rd u (i : Int))) := by
        have hbk : (ad.add i).block = ad.block := by unfold Addr.add; split <;> rfl
        have hlt : (ad.add i).block < X.heap.size := block_lt_of_cell hx0
        rw [← hx0]
        unfold World.cell?
        rw [hfar _ hlt (by rw [hbk]; exact hadg)]
      have hr : rd u (i : Int) = ((u.getD i 0).toNat : Int) := by
        have := HUB.out (rd u (i : Int)) (rd_mem (by omega))
        have e : rd u (i : Int) = u.getD i 0 := by simp [rd]
        rw [e] at this ⊢
        omega
      rw [hr] at hx
      have hci : wr.cell? ⟨g, i, none⟩ = some (.int .u8 ((o.getD i 0).toNat : Int)) := by
        rw [cell_of_row wr g i (rowV (mixL o u i)) _ _ hg]
        have h1 := mix_at o u i i h32
        rw [if_neg (by omega)] at h1
        have h2 : o.getD i 0 = ((o.getD i 0).toNat : Int) := by
          have := HOB.out (o.getD i 0) (by rw [List.getD_eq_getElem?_getD, List.getElem?_eq_getElem (by omega)]; exact List.getElem_mem _)
          omega
        simp only [rowV, List.getElem?_toArray, List.getElem?_map, h1, Option.map_some]
        rw [← h2]
      have hfi := blk_frozen hg i
      have ha := toNat_lt HOB.out i
      have hb := toNat_lt HUB.out i
      have hset := mix_set o u i h32
      obtain ⟨p, hp⟩ : ∃ p, p = (o.getD i 0).toNat := ⟨_, rfl⟩
      obtain ⟨q, hq⟩ : ∃ q, q = (u.getD i 0).toNat := ⟨_, rfl⟩
      rw [← hp] at hci ha hset
      rw [← hq] at hx hb hset
      have hxr := xor8 p q ha hb
      have HSET := Aside0.mk hset
      have HGG := Aside0.mk hg
      have HFAR := Aside0.mk hfar
      have HBW := Aside0.mk hbw
      have kk0 : (i : Int) < 32 := by omega
      clear hset hg hfar hbw hx0 hr hp hq
      go_wp2
      go_region
      go_wp2
      go_roundw
      case rel =>
        refine ⟨i + 1, by omega, by go_num, ⟨?_, fun k hk hkg => (Below.heap_setCell _ ⟨g, i, none⟩ _ k hkg).trans (HFAR.out k hk hkg), (HBW.out.setCell (Nat.le_refl _) _).drew⟩⟩
        have h1 := blk_set HGG.out i (Value.int .u8 ((p ^^^ q : Nat) : Int))
        rw [rowV_set, HSET.out] at h1
        exact h1
      case measure => simp [intOf]; omega
    · obtain rfl : i = 32 := by omega
      rw [mix_all] at hg
      have HGG := Aside0.mk hg
      have HFAR := Aside0.mk hfar
      have HBW := Aside0.mk hbw
      clear hg hfar hbw
      go_wp2
      go_end0
      exact ⟨⟨_, rfl⟩, HGG.out, HFAR.out, HBW.out⟩
theorem rounds_any (A0 : Option Addr) (n0 c0 : Nat) (A1 : Option Addr) (n1 c1 : Nat) (n : Int) (w : World) : Calls Tryd.prog 57 #[.slice A0 n0 c0, .slice A1 n1 c1, .int .i64 n] w fun e w' =>
    e = .returned (.func (.func 65) #[] #[.pointer (some ⟨w.heap.size + 1, 0, none⟩), .pointer (some ⟨w.heap.size + 1 + 1, 0, none⟩), .pointer (some ⟨w.heap.size, 0, none⟩)]) ∧
    w' = ((w.alloc (.cells #[.slice A0 n0 c0] 22)).alloc (.cells #[.slice A1 n1 c1] 22)).alloc (.cells #[.int .i64 n] 3) := by
  go_enter Tryd.func57, Tryd.ntmps57
  go_wp2
  go_ret
  exact ⟨by simp, rfl⟩
end Go.Proofs.YtfmdpkilgnccfaaDoor.E
