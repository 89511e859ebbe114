/- slices.Chunk at rows of bytes, sixty-four each: its closure, as an iterator that makes nothing. -/
import Derived.Test.YtfmdpkilgnccfaaDoorSha3
import Derived.Test.YtfmdpkilgnccfaaDoorConcat
import Derived.Test.YtfmdpkilgnccfaaDoorRF
import Derived.WalkMore
namespace Go.Proofs.YtfmdpkilgnccfaaDoor.E
open Go.RowKit Go.Shelf Go.Proofs.YtfmdpkilgnccfaaDoorW.PrintWords Go.Proofs.YtfmdpkilgnccfaaDoorW.PrintLast Go.Proofs.YtfmdpkilgnccfaaDoorW.PrintMore Go.Proofs.YtfmdpkilgnccfaaDoor.Pr
attribute [local go_sem] Oper.semAt_some
set_option linter.unusedVariables false
set_option linter.unusedSimpArgs false
/-- The pieces of sixty-four. -/
def chunksL (xs : List Int) (m : Nat) : List (List Int) := (List.range m).map fun i => (xs.drop (64 * i)).take 64
theorem chunksL_succ (xs : List Int) (m : Nat) : chunksL xs (m + 1) = chunksL xs m ++ [(xs.drop (64 * m)).take 64] := by
  simp [chunksL, List.range_succ]
theorem chunksL_pre (xs : List Int) {i m : Nat} (h : i < m) : chunksL xs i ++ [(xs.drop (64 * i)).take 64] <+: chunksL xs m := by
  rw [← chunksL_succ]
  refine ⟨(List.range (m - (i + 1))).map fun j => (xs.drop (64 * ((i + 1) + j))).take 64, ?_⟩
  have e : List.range m = List.range (i + 1) ++ (List.range (m - (i + 1))).map fun j => (i + 1) + j := by
    rw [← List.range_add]; congr 1; omega
  unfold chunksL
  rw [e, List.map_append, List.map_map]
  rfl
def encC (x : List Int) (X : World) (vs : Array Value) : Prop := ∃ A, vs = #[.slice A 64 64] ∧ x.length = 64 ∧ Kd.C (Kd.int .u8) X A 64 x
def KpC (hb : Nat) (X Y : World) : Prop := X.heap.size ≤ Y.heap.size ∧ ∀ k o, X.heap[k]? = some o → o.isCells = true → k ≠ hb → Y.heap[k]? = some o
theorem KpC.row {hb n0 e : Nat} {X Y : World} {α : Type} {d : Kd α} {ok : Nat → Prop} {v : Value} {xs : List α} (h : KpC hb X Y) (hR : d.R e X n0 ok v xs) (hok : ∀ k, ok k → k ≠ hb) : d.R e Y n0 ok v xs :=
  Kd.R_mono (Kd.R_move (Kd.R_bound hR) (fun k hk => by
    obtain ⟨h1, _, _, q, _, cells, hc⟩ := hk
    rw [hc]; exact h.2 k _ hc rfl (hok k h1))) (fun _ hk => hk.1)
theorem R_putObj {α : Type} {d : Kd α} {e : Nat} {w : World} {base : Nat} {ok : Nat → Prop} {v : Value} {xs : List α} (h : d.R e w base ok v xs) {l : Nat} {o : Obj} (hl : w.heap[l]? = some o) (ho : o.isCells = false) (o' : Obj) : d.R e (w.putObj l o') base ok v xs :=
  Kd.R_mono (Kd.R_move (Kd.R_bound h) (fun k hk => World.putObj_heap_other (fun e => by
    obtain ⟨_, _, _, q, _, cells, hc⟩ := hk
    rw [e, hl] at hc
    cases hc
    cases ho))) (fun _ hk => hk.1)
theorem C_putObj {w : World} {A : Option Addr} {n : Nat} {xs : List Int} (h : Kd.C (Kd.int .u8) w A n xs) {l : Nat} {o : Obj} (hl : w.heap[l]? = some o) (ho : o.isCells = false) (o' : Obj) : Kd.C (Kd.int .u8) (w.putObj l o') A n xs := by
  refine ⟨h.1, h.2.1, fun hn => ?_⟩
  obtain ⟨ad, e, hc⟩ := h.2.2 hn
  refine ⟨ad, e, fun j p hj => ?_⟩
  obtain ⟨c, h1, h2, h3⟩ := hc j p hj
  refine ⟨c, h1, h2, fun i u hu => ?_⟩
  have h4 := h3 i u hu
  have hne : (ad.add (j * (Kd.int IntKind.u8).sz + i)).block ≠ l := by
    intro e
    unfold World.cell? at h4
    rw [e, hl] at h4
    cases o <;> simp_all [Obj.isCells]
  rw [← h4]
  unfold World.cell?
  rw [World.putObj_heap_other hne]
def StC (X Y : World) : Prop := Below X.heap.size X Y
set_option maxRecDepth 100000 in
set_option maxHeartbeats 4000000 in
theorem chunk_iter (l qb qn hb n0 : Nat) (A : Option Addr) (c : Nat) (xs : List Int) (m : Nat) (hm : xs.length = 64 * m) (hlen : xs.length ≤ 140737488351232) (hqb : qb ≠ hb) (hqn : qn ≠ hb) (K : List (List Int) → World → Prop) (hKS : ∀ s X Y, K s X → StC X Y → K s Y)
    (hY : ∀ s x X vs, s ++ [x] <+: chunksL xs m → K s X → encC x X vs → YieldAt Fence.wide 1 Tryd.prog l vs X fun e Y => e = .returned (.bool true) ∧ K (s ++ [x]) Y ∧ KpC hb X Y)
    (W : World) (h0 : K [] W) (hb1 : W.heap[qb]? = some (.cells #[.slice A xs.length c] 22 (0, 0))) (hn1 : W.heap[qn]? = some (.cells #[.int .i64 64] 3 (0, 0))) (hR : Kd.R (Kd.int .u8) 5 W n0 (fun k => k ≠ hb) (.slice A xs.length c) xs) :
    CallsIn Fence.wide 2 Tryd.prog 60 #[.func (.yield l) #[] #[], .pointer (some ⟨qb, 0, none⟩), .pointer (some ⟨qn, 0, none⟩)] W fun e W' => (∃ v, e = .returned v) ∧ ∃ s, s = chunksL xs m ∧ K s W' := by
  refine callsIn_of_wp Tryd.func60 rfl trivial ?_ rfl
  simp only [Tryd.ntmps60, List.size_toArray, List.length_cons, List.length_nil, Nat.reduceAdd, Nat.reduceSub, Array.replicate_succ, Array.replicate_zero, List.push_toArray, List.append_toArray, List.nil_append, List.cons_append]
  have HB := Aside0.mk hb1
  have HN := Aside0.mk hn1
  have HR := Aside0.mk hR
  have HM := Aside0.mk hm
  have h0' := Aside0.mk h0
  obtain ⟨L, hL⟩ : ∃ L, L = xs.length := ⟨_, rfl⟩
  have HL := Aside0.mk hL
  rw [← hL] at hlen HB HR hm
  clear hb1 hn1 hR hL h0
  gi_wp2
  gi_loopw [4] (fun v4 wr => ∃ (i : Nat), v4 = .int .i64 ((64 * i : Nat) : Int) ∧ i ≤ m ∧ Aside0 (K (chunksL xs i) wr ∧ wr.heap[qb]? = some (.cells #[.slice A L c] 22 (0, 0)) ∧ wr.heap[qn]? = some (.cells #[.int .i64 64] 3 (0, 0)) ∧ Kd.R (Kd.int .u8) 5 wr n0 (fun k => k ≠ hb) (.slice A L c) xs)) (fun v4 _ => L - (intOf v4).toNat)
  case atStart => exact ⟨0, rfl, Nat.zero_le _, ⟨h0'.out, HB.out, HN.out, HR.out⟩⟩
  case round =>
    obtain ⟨i, rfl, him, hh⟩ := hrel
    obtain ⟨⟨hK, hqb', hqn', hR'⟩⟩ := hh
    have cb : wr.cell? ⟨qb, 0, none⟩ = some (.slice A L c) := blk_cell hqb' 0
    have cn : wr.cell? ⟨qn, 0, none⟩ = some (.int .i64 64) := blk_cell hqn' 0
    have HK := Aside0.mk hK
    have HQB := Aside0.mk hqb'
    have HQN := Aside0.mk hqn'
    have HRR := Aside0.mk hR'
    clear hK hqb' hqn' hR'
    subst hm
    by_cases hlt : i < m
    · obtain ⟨A', c', he, hlc, hC⟩ := Kd.R_reads HRR.out
      rw [← HM.out] at HRR HQB
      injection he with e1 e2 e3
      subst e1; subst e3
      obtain ⟨ad, rfl, -⟩ := Kd.at_int hC 0 (by omega) (by rw [HM.out]; omega)
      have hx := C_sub hC (64 * i) 64 (by rw [HM.out]; omega)
      have hxl : ((xs.drop (64 * i)).take 64).length = 64 := by rw [List.length_take, List.length_drop, HM.out]; omega
      obtain ⟨x, hxe⟩ : ∃ x, x = (xs.drop (64 * i)).take 64 := ⟨_, rfl⟩
      have hpre := chunksL_pre xs hlt
      have hsucc := chunksL_succ xs i
      rw [← hxe] at hx hxl hpre hsucc
      rw [HM.out] at hlc
      have HX := Aside0.mk hx
      have HXL := Aside0.mk hxl
      have HPRE := Aside0.mk hpre
      have HSUCC := Aside0.mk hsucc
      have hci : c ≠ 64 * i := by omega
      have hcm : (64 * (i : Int)) < 64 * (m : Int) := by omega
      clear hx hxl hpre hsucc hxe hC
      gi_wp2
      gi_region
      obtain ⟨fn, tmps, assign, body, hy, hR⟩ := hY (chunksL xs i) x wr.drew #[.slice (some (ad.add (64 * i))) 64 64] HPRE.out (hKS _ _ _ HK.out (Below.refl _ wr).drew) ⟨_, rfl, HXL.out, Kd.C_below HX.out (Below.refl _ wr).drew⟩
      have HR2 := Aside0.mk hR
      clear hR
      gi_wp2
      refine HR2.out.mono ?_
      rintro e w3 ⟨rfl, hk3, hkp⟩
      have hq3 : w3.heap[qb]? = some (.cells #[.slice (some ad) xs.length c] 22 (0, 0)) := hkp.2 qb _ HQB.out rfl hqb
      have hn3 : w3.heap[qn]? = some (.cells #[.int .i64 64] 3 (0, 0)) := hkp.2 qn _ HQN.out rfl hqn
      have hr3 : Kd.R (Kd.int .u8) 5 w3 n0 (fun k => k ≠ hb) (.slice (some ad) xs.length c) xs := hkp.row (Kd.R_drew HRR.out) (fun _ hk => hk)
      have cb3 : w3.cell? ⟨qb, 0, none⟩ = some (.slice (some ad) xs.length c) := blk_cell hq3 0
      have cn3 : w3.cell? ⟨qn, 0, none⟩ = some (.int .i64 64) := blk_cell hn3 0
      have HK3 := Aside0.mk hk3
      have HQ3 := Aside0.mk hq3
      have HN3 := Aside0.mk hn3
      have HR3 := Aside0.mk hr3
      clear hk3 hkp HR2 hq3 hn3 hr3
      gi_wp2
      go_roundw
      case rel => exact ⟨i + 1, by go_num, by omega, ⟨by rw [HSUCC.out]; exact HK3.out, by rw [← HM.out]; exact HQ3.out, HN3.out, by rw [← HM.out]; exact HR3.out⟩⟩
      case measure => simp [intOf]; omega
    · obtain rfl : i = m := by omega
      gi_wp2
      go_end0
      exact ⟨⟨_, rfl⟩, _, rfl, HK.out⟩
end Go.Proofs.YtfmdpkilgnccfaaDoor.E
