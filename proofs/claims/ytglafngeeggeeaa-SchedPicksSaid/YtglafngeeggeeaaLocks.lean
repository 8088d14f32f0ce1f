/- The locks' map, as a function from numbers to who has the lock; the state of a run in memory, and what it leaves when other blocks turn. By hand. -/
import Derived.Test.YtglafngeeggeeaaPSchx0
import Derived.WalkKit
import Derived.Lib.Hide
import Derived.Maps.Own
import Derived.Maps.OwnOps
import Derived.Maps.OwnSet
import Derived.Maps.Views
namespace Go.Proofs.Ytglafngeeggeeaa
open Go.RowKit Go.Proofs.YtglafngeeggeeaaW.PrintWords Go.Proofs.Ytglafngeeggeeaa.PSch
open Go.Maps (Keyed)
set_option linter.unusedVariables false
set_option linter.unusedSimpArgs false

def wf64 (k : Int) : Prop := (Lit.int .i64 k).wf = true
theorem wf64_iff (k : Int) : wf64 k ↔ -9223372036854775808 ≤ k ∧ k ≤ 9223372036854775807 := by
  unfold wf64
  simp only [Lit.wf, IntKind.min, IntKind.max, IntKind.signed, IntKind.bits, Bool.and_eq_true, decide_eq_true_eq, if_true]
  omega
/-- Block b of w is a map of locks: k ↦ who has it. -/
def Lk (w : World) (b : Nat) (L : Int → Option Int) (n : Nat) : Prop :=
  ∃ D : DataW Unit, w.ownsMap Try.prog 3 (plainElem Try.prog 3) b n D ∧ ∀ k, wf64 k → (Maps.has D (.int .i64 k) = (L k).isSome ∧ ∀ v, L k = some v → D.atKey (.int .i64 k) (.lit (.int .i64 0)) = .lit (.int .i64 v))
theorem zero3 (w : World) : (zeroValue 3).run Try.prog w = .ok (.int .i64 0) w := by kernel_rfl
theorem keyed3 : Keyed Try.prog 3 := Maps.int_keyed Try.underlying3
theorem Lk.made (w : World) : Lk (w.alloc (.map #[] 0)) w.heap.size (fun _ => none) 0 :=
  ⟨.map [], World.ownsMap_made w _ _ _, fun k _ => ⟨rfl, fun v h => by cases h⟩⟩
theorem Lk.drewN {w : World} {b n : Nat} {L : Int → Option Int} (h : Lk w b L n) (m : Nat) : Lk (w.drewN m) b L n := h
theorem Lk.lt {w : World} {b n : Nat} {L : Int → Option Int} (h : Lk w b L n) : b < w.heap.size := by
  obtain ⟨D, hD, _⟩ := h
  exact hD.lt
theorem Lk.kept {w w' : World} {b n : Nat} {L : Int → Option Int} (h : Lk w b L n) (hb : w'.heap[b]? = w.heap[b]?) : Lk w' b L n := by
  obtain ⟨D, ⟨es, clock, h1, h2⟩, h3⟩ := h
  exact ⟨D, ⟨es, clock, hb.trans h1, h2⟩, h3⟩
theorem Lk.isMap {w : World} {b n : Nat} {L : Int → Option Int} (h : Lk w b L n) : ∃ es c, w.heap[b]? = some (.map es c) := by
  obtain ⟨D, ⟨es, clock, h1, h2⟩, h3⟩ := h
  exact ⟨es, clock, h1⟩
/-- 'v, ok := m[k]'. -/
theorem Lk.look {w : World} {b n : Nat} {L : Int → Option Int} (h : Lk w b L n) (k : Int) (hk : wf64 k) :
    ∃ c : Int, (∀ m, (Instr.lookup 43 (.map (some b)) (.int .i64 k) true).run Try.prog (w.drewN m) = .ok (.tuple #[.int .i64 c, .bool (L k).isSome]) (w.drewN m)) ∧ ∀ v, L k = some v → c = v := by
  obtain ⟨D, hD, hv⟩ := h
  have hkey : keyOf Try.prog 3 (.int .i64 k) = some (.int .i64 k) := Maps.keyOf_int_mk Try.underlying3 hk
  obtain ⟨v, ps, hrun, hr⟩ := hD.look_ok keyed3 Try.underlying43 (zero3 w) (plainElem_int Try.underlying3 (by decide)) hkey
  obtain ⟨c, rfl, hc, hwc⟩ := plainElem_int_inv Try.underlying3 hr
  refine ⟨c, fun m => ?_, fun v hL => ?_⟩
  · obtain ⟨v', ps', hrun', hr'⟩ := World.ownsMap.look_ok (w := w.drewN m) hD keyed3 Try.underlying43 (zero3 _) (plainElem_int Try.underlying3 (by decide)) hkey
    obtain ⟨c', rfl, hc', _⟩ := plainElem_int_inv Try.underlying3 hr'
    have e : c' = c := by
      have a1 := congrArg Prod.fst hc
      have a2 := congrArg Prod.fst hc'
      dsimp only at a1 a2
      rw [a1] at a2
      injection a2 with a2
      injection a2 with _ a2
      exact a2.symm
    rw [← (hv k hk).1, hrun', e]
  · have a1 := congrArg Prod.fst hc
    have a2 := (hv k hk).2 v hL
    dsimp only at a1
    rw [a1] at a2
    injection a2 with a2
    injection a2 with _ a2
theorem ne_key {k k' : Int} (h : k' ≠ k) : (Lit.int .i64 k') ≠ Lit.int .i64 k := by
  intro e; injection e with _ e; exact h e
theorem Lk.put {w : World} {b n : Nat} {L : Int → Option Int} {D : DataW Unit} (hm : Maps.IsMap D) (hv : ∀ k, wf64 k → (Maps.has D (.int .i64 k) = (L k).isSome ∧ ∀ v, L k = some v → D.atKey (.int .i64 k) (.lit (.int .i64 0)) = .lit (.int .i64 v)))
    (k v : Int) (hk : wf64 k) (h : w.ownsMap Try.prog 3 (plainElem Try.prog 3) b n (D.put (.int .i64 k) (.lit (.int .i64 v)))) : Lk w b (fun x => if x = k then some v else L x) n := by
  refine ⟨_, h, fun x hx => ?_⟩
  have kl : WideAt.IsKeyLit (.int .i64 k) := by trivial
  by_cases e : x = k
  · subst e
    dsimp only
    rw [if_pos rfl]
    exact ⟨by rw [Maps.has_put_same hm kl]; rfl, fun v' h' => by rw [Maps.atKey_put_same hm kl]; cases h'; rfl⟩
  · dsimp only
    rw [if_neg e]
    exact ⟨by rw [Maps.has_put_other (ne_key e)]; exact (hv x hx).1, fun v' h' => by rw [Maps.atKey_put_other (ne_key e)]; exact (hv x hx).2 v' h'⟩
theorem Lk.del {w : World} {b n : Nat} {L : Int → Option Int} {D : DataW Unit} (hv : ∀ k, wf64 k → (Maps.has D (.int .i64 k) = (L k).isSome ∧ ∀ v, L k = some v → D.atKey (.int .i64 k) (.lit (.int .i64 0)) = .lit (.int .i64 v)))
    (k : Int) (hk : wf64 k) (h : w.ownsMap Try.prog 3 (plainElem Try.prog 3) b n (D.del (.int .i64 k))) : Lk w b (fun x => if x = k then none else L x) n := by
  refine ⟨_, h, fun x hx => ?_⟩
  by_cases e : x = k
  · subst e
    dsimp only
    rw [if_pos rfl]
    exact ⟨by rw [Maps.has_del_same]; rfl, fun v' h' => by cases h'⟩
  · dsimp only
    rw [if_neg e]
    exact ⟨by rw [Maps.has_del_other (ne_key e)]; exact (hv x hx).1, fun v' h' => by rw [Maps.atKey_del_other (ne_key e)]; exact (hv x hx).2 v' h'⟩

/-! ### the state of a run -/
structure Run (B : Nat) (w0 w : World) (gr ga bm : Nat) (A0 : Option Addr) (N c0 : Nat) (xs : List Int) (L : Int → Option Int) (q : Nat) : Prop where
  below : Below B w0 w
  hgr : B ≤ gr
  hga : B ≤ ga
  hbm : B ≤ bm
  run : w.heap[gr]? = some (.cells #[.slice A0 N c0, .slice (some ⟨ga, 0, none⟩) N N, .map (some bm)] 45 (0, 0))
  row : w.heap[ga]? = some (.cells (nums .i64 xs).toArray 3 (0, 0))
  len : xs.length = N
  lk : Lk w bm L q
section
variable {B : Nat} {w0 w w' : World} {gr ga bm : Nat} {A0 : Option Addr} {N c0 : Nat} {xs : List Int} {L : Int → Option Int} {q : Nat}
theorem Run.gr_ga (h : Run B w0 w gr ga bm A0 N c0 xs L q) : gr ≠ ga := by
  rintro rfl
  have := h.run.symm.trans h.row
  injection this with this
  injection this with _ this
  cases this
theorem Run.gr_bm (h : Run B w0 w gr ga bm A0 N c0 xs L q) : gr ≠ bm := by
  rintro rfl
  obtain ⟨es, c, hm⟩ := h.lk.isMap
  have := h.run.symm.trans hm
  cases this
theorem Run.ga_bm (h : Run B w0 w gr ga bm A0 N c0 xs L q) : ga ≠ bm := by
  rintro rfl
  obtain ⟨es, c, hm⟩ := h.lk.isMap
  have := h.row.symm.trans hm
  cases this
theorem lt_of_heap {w : World} {i : Nat} {o : Obj} (h : w.heap[i]? = some o) : i < w.heap.size := (Array.getElem?_eq_some_iff.1 h).1
theorem Run.drewN (h : Run B w0 w gr ga bm A0 N c0 xs L q) (m : Nat) : Run B w0 (w.drewN m) gr ga bm A0 N c0 xs L q :=
  ⟨pw_below_drewN h.below m, h.hgr, h.hga, h.hbm, h.run, h.row, h.len, h.lk⟩
theorem Run.grown (h : Run B w0 w gr ga bm A0 N c0 xs L q) (hb : Below w.heap.size w w') (hB : B ≤ w.heap.size) : Run B w0 w' gr ga bm A0 N c0 xs L q :=
  ⟨h.below.trans ⟨hb.os, hb.tape, hb.output, hb.size, fun i hi => hb.block i (Nat.lt_of_lt_of_le hi hB)⟩, h.hgr, h.hga, h.hbm, (hb.block gr (lt_of_heap h.run)).trans h.run, (hb.block ga (lt_of_heap h.row)).trans h.row, h.len, h.lk.kept (hb.block bm h.lk.lt)⟩
theorem Run.alloc (h : Run B w0 w gr ga bm A0 N c0 xs L q) (hB : B ≤ w.heap.size) (o : Obj) : Run B w0 (w.alloc o) gr ga bm A0 N c0 xs L q :=
  h.grown ((Below.refl _ w).alloc (Nat.le_refl _) o) hB
theorem Run.cell0 (h : Run B w0 w gr ga bm A0 N c0 xs L q) : w.cell? ⟨gr, 0, none⟩ = some (.slice A0 N c0) := by
  have := cell_of_row w gr 0 _ _ _ h.run; simpa using this
theorem Run.cell1 (h : Run B w0 w gr ga bm A0 N c0 xs L q) : w.cell? ⟨gr, 1, none⟩ = some (.slice (some ⟨ga, 0, none⟩) N N) := by
  have := cell_of_row w gr 1 _ _ _ h.run; simpa using this
theorem Run.cell2 (h : Run B w0 w gr ga bm A0 N c0 xs L q) : w.cell? ⟨gr, 2, none⟩ = some (.map (some bm)) := by
  have := cell_of_row w gr 2 _ _ _ h.run; simpa using this
theorem Run.at_ (h : Run B w0 w gr ga bm A0 N c0 xs L q) (i : Int) (h0 : 0 ≤ i) (h1 : i < (N : Int)) : w.cell? ⟨ga, i.toNat, none⟩ = some (.int .i64 (rd xs i)) := by
  have := cell_of_row w ga i.toNat _ _ _ h.row
  rw [this]
  have hl : i.toNat < xs.length := by have := h.len; omega
  simp [nums, rd, List.getD_eq_getElem?_getD, List.getElem?_eq_getElem hl]
theorem Run.frozen_at (h : Run B w0 w gr ga bm A0 N c0 xs L q) (j : Nat) : w.frozen? ⟨ga, j, none⟩ = false := by
  simp [World.frozen?, h.row]
/-- One task one step further. -/
theorem Run.set_ (h : Run B w0 w gr ga bm A0 N c0 xs L q) (i x : Int) : Run B w0 (w.setCell ⟨ga, i.toNat, none⟩ (.int .i64 x)) gr ga bm A0 N c0 (xs.set i.toNat x) L q := by
  refine ⟨h.below.setCell h.hga _, h.hgr, h.hga, h.hbm, ?_, ?_, by rw [List.length_set]; exact h.len, h.lk.kept ?_⟩
  · exact (Below.heap_setCell w _ _ gr h.gr_ga).trans h.run
  · have hr := h.row
    simp [World.setCell, Array.getElem?_modify, hr, nums, List.map_set]
  · exact Below.heap_setCell w _ _ bm h.ga_bm.symm
theorem Run.far (h : Run B w0 w gr ga bm A0 N c0 xs L q) {p : Addr} (hp : B ≤ p.block) (h1 : gr ≠ p.block) (h2 : ga ≠ p.block) (h3 : bm ≠ p.block) (u : Value) : Run B w0 (w.setCell p u) gr ga bm A0 N c0 xs L q :=
  ⟨h.below.setCell hp _, h.hgr, h.hga, h.hbm, (Below.heap_setCell w _ _ gr h1).trans h.run, (Below.heap_setCell w _ _ ga h2).trans h.row, h.len, h.lk.kept (Below.heap_setCell w _ _ bm h3)⟩
theorem turned_block {b i : Nat} (h : w.mapTurned w' b) (hi : i ≠ b) (hlt : i < w.heap.size) : w'.heap[i]? = w.heap[i]? := h.grown.block i hlt (fun e => hi (by injection e))
theorem Run.turned (h : Run B w0 w gr ga bm A0 N c0 xs L q) (ht : w.mapTurned w' bm) {L' : Int → Option Int} {q' : Nat} (hl : Lk w' bm L' q') : Run B w0 w' gr ga bm A0 N c0 xs L' q' := by
  have hg := ht.grown
  refine ⟨h.below.trans ⟨hg.os, hg.tape, hg.output, hg.size, fun i hi => hg.block i (by have := lt_of_heap h.run; have := h.hgr; omega) (fun e => ?_)⟩, h.hgr, h.hga, h.hbm, (turned_block ht h.gr_bm (lt_of_heap h.run)).trans h.run, (turned_block ht h.ga_bm (lt_of_heap h.row)).trans h.row, h.len, hl⟩
  have : i = bm := by injection e
  have := h.hbm
  omega
end
end Go.Proofs.Ytglafngeeggeeaa
