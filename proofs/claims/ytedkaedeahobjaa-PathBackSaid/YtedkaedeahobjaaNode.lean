/- Nodes of the trie that strings.Replacer builds, in memory; (*trieNode).add at an empty key, and at a node that is still bare. -/
import Derived.Test.YtedkaedeahobjaaProg
import Derived.Test.YtedkaedeahobjaaWWords
import Derived.Test.YtedkaedeahobjaaWLast
import Derived.Test.YtedkaedeahobjaaWMore
import Derived.WalkSpells
import Derived.StillTailTactics
import Derived.Laws.Entries
import Derived.Laws.NewBlocks
import Derived.Laws.Alloc2
import Derived.RegionTactic
import Derived.ChangeAlike
import Derived.WalkKit
import Derived.Deep.QuietTactic
import Derived.BigQuiet
import Derived.Lib.Hide
import Derived.Deep.RegionWith
namespace Go.Proofs.Ytedkaedeahobjaa
open Go.RowKit Go.Proofs.YtedkaedeahobjaaW.PrintWords
set_option linter.unusedVariables false
set_option linter.unusedSimpArgs false

theorem alloc_drewN (w : World) (q : Nat) (o : Obj) : (w.drewN q).alloc o = (w.alloc o).drewN q := rfl
theorem setCell_drewN (w : World) (q : Nat) (a : Addr) (u : Value) : (w.drewN q).setCell a u = (w.setCell a u).drewN q := rfl
theorem frozen_drewN (w : World) (q : Nat) (a : Addr) : (w.drewN q).frozen? a = w.frozen? a := rfl
theorem gen_world {P : Program} {c : Code} {Q : Exit → Act → World → Prop} {a : Act} {w : World} (F : World → Prop) (hF : F w) (h : ∀ W, F W → c.wp P Q a W) : c.wp P Q a w := h w hF
theorem still_tail {P : Program} {id : Nat} {Q : Exit → Act → World → Prop} {a : Act} {w : World} {l : List Oper} (n : Nat) (hm : P.follows .mixedOrders = true) (hB : Region.lexTailB .any l.toArray n = true)
    (h : wpStill P l.toArray w.drew (fun a' => wpList P l.toArray Q (l.drop n) a' w.drew) (l.take n) a) : (Code.region id l.toArray true).wp P Q a w := wp_region_still_tail n hm hB h
theorem size_setCell (w : World) (a : Addr) (u : Value) : (w.setCell a u).heap.size = w.heap.size := by simp [World.setCell]
theorem one_new (w : World) (o : Obj) (n : Nat) (hn : w.heap.size = n) : (w.alloc o).heap[n]? = some o := by
  subst hn; exact blk_new w o
theorem two_new (w : World) (o1 o2 : Obj) (n : Nat) (hn : w.heap.size = n) : ((w.alloc o1).alloc o2).heap[n]? = some o1 ∧ ((w.alloc o1).alloc o2).heap[n + 1]? = some o2 := by
  subst hn
  constructor
  · rw [Below.heap_alloc _ _ _ (by simp)]; exact blk_new w o1
  · have := blk_new (w.alloc o1) o2
    rwa [World.size_alloc] at this
/-- A node: value, priority, prefix, next, table. -/
def Node (w : World) (n : Nat) (v : ByteArray) (p : Int) (x : ByteArray) (nx tb : Value) : Prop :=
  w.heap[n]? = some (.cells #[.string v, .int .i64 p, .string x, nx, tb] 98 (0, 0))
/-- Of what lay there, only blocks of S have turned. -/
structure Mod (w w' : World) (S : Nat → Prop) : Prop where
  os : w'.os = w.os
  tape : w'.tape = w.tape
  output : w'.output = w.output
  size : w.heap.size ≤ w'.heap.size
  block : ∀ i, i < w.heap.size → ¬ S i → w'.heap[i]? = w.heap[i]?
theorem Mod.refl (w : World) (S : Nat → Prop) : Mod w w S := ⟨rfl, rfl, rfl, Nat.le_refl _, fun _ _ _ => rfl⟩
theorem Mod.trans {a b c : World} {S T : Nat → Prop} (h : Mod a b S) (k : Mod b c T) (hT : ∀ i, i < a.heap.size → T i → S i) : Mod a c S :=
  ⟨k.os.trans h.os, k.tape.trans h.tape, k.output.trans h.output, Nat.le_trans h.size k.size, fun i hi hs => (k.block i (Nat.lt_of_lt_of_le hi h.size) (fun t => hs (hT i hi t))).trans (h.block i hi hs)⟩
theorem Mod.alloc {a w : World} {S : Nat → Prop} (h : Mod a w S) (o : Obj) : Mod a (w.alloc o) S :=
  h.trans (T := fun _ => False) ⟨rfl, rfl, rfl, by simp, fun k hk _ => Below.heap_alloc _ _ _ hk⟩ (fun _ _ h => h.elim)
theorem Mod.drew {a w : World} {S : Nat → Prop} (h : Mod a w S) : Mod a w.drew S := ⟨h.os, h.tape, h.output, h.size, h.block⟩
theorem Mod.drewN {a w : World} {S : Nat → Prop} (h : Mod a w S) (n : Nat) : Mod a (w.drewN n) S := by
  have hb := pw_below_drewN (Below.refl w.heap.size w) n
  exact h.trans (T := fun _ => False) ⟨hb.os, hb.tape, hb.output, hb.size, fun k hk _ => hb.block k hk⟩ (fun _ _ h => h.elim)
theorem Mod.setCell {a w : World} {S : Nat → Prop} (h : Mod a w S) (p : Addr) (u : Value) (hp : S p.block ∨ a.heap.size ≤ p.block) : Mod a (w.setCell p u) S :=
  h.trans (T := fun i => i = p.block) ⟨rfl, rfl, rfl, by simp [World.setCell], fun k hk hn => Below.heap_setCell _ _ _ _ hn⟩ (fun i hi e => by subst e; rcases hp with hp | hp; exact hp; omega)
theorem Mod.mono {a w : World} {S T : Nat → Prop} (h : Mod a w S) (hST : ∀ i, S i → T i) : Mod a w T := ⟨h.os, h.tape, h.output, h.size, fun i hi hn => h.block i hi (fun s => hn (hST i s))⟩
theorem Mod.below {a w : World} {S : Nat → Prop} (h : Mod a w S) {B : Nat} (hB : B ≤ a.heap.size) (hS : ∀ i, S i → B ≤ i) : Below B a w := ⟨h.os, h.tape, h.output, h.size, fun k hk => h.block k (Nat.lt_of_lt_of_le hk hB) (fun s => by have := hS k s; omega)⟩
theorem Mod.cell {w w' : World} {S : Nat → Prop} (hm : Mod w w' S) {g j : Nat} (hg : g < w.heap.size) (hn : ¬ S g) {v : Value} (h : w.cell? ⟨g, j, none⟩ = some v) : w'.cell? ⟨g, j, none⟩ = some v := (World.cell?_of_block (w := w) (hm.block g hg hn)).trans h
theorem Node.lt {w : World} {n : Nat} {v : ByteArray} {p : Int} {x : ByteArray} {nx tb : Value} (h : Node w n v p x nx tb) : n < w.heap.size := (Array.getElem?_eq_some_iff.1 h).1
theorem Node.mod {w w' : World} {S : Nat → Prop} {n : Nat} {v : ByteArray} {p : Int} {x : ByteArray} {nx tb : Value} (h : Node w n v p x nx tb) (hm : Mod w w' S) (hn : ¬ S n) : Node w' n v p x nx tb := (hm.block n h.lt hn).trans h
theorem Node.c0 {w : World} {n : Nat} {v : ByteArray} {p : Int} {x : ByteArray} {nx tb : Value} (h : Node w n v p x nx tb) : w.cell? ⟨n, 0, none⟩ = some (.string v) := by have := cell_of_row w n 0 _ _ _ h; simpa using this
theorem Node.c1 {w : World} {n : Nat} {v : ByteArray} {p : Int} {x : ByteArray} {nx tb : Value} (h : Node w n v p x nx tb) : w.cell? ⟨n, 1, none⟩ = some (.int .i64 p) := by have := cell_of_row w n 1 _ _ _ h; simpa using this
theorem Node.c2 {w : World} {n : Nat} {v : ByteArray} {p : Int} {x : ByteArray} {nx tb : Value} (h : Node w n v p x nx tb) : w.cell? ⟨n, 2, none⟩ = some (.string x) := by have := cell_of_row w n 2 _ _ _ h; simpa using this
theorem Node.c3 {w : World} {n : Nat} {v : ByteArray} {p : Int} {x : ByteArray} {nx tb : Value} (h : Node w n v p x nx tb) : w.cell? ⟨n, 3, none⟩ = some nx := by have := cell_of_row w n 3 _ _ _ h; simpa using this
theorem Node.c4 {w : World} {n : Nat} {v : ByteArray} {p : Int} {x : ByteArray} {nx tb : Value} (h : Node w n v p x nx tb) : w.cell? ⟨n, 4, none⟩ = some tb := by have := cell_of_row w n 4 _ _ _ h; simpa using this
theorem Node.fz {w : World} {n : Nat} {v : ByteArray} {p : Int} {x : ByteArray} {nx tb : Value} (h : Node w n v p x nx tb) (j : Nat) : w.frozen? ⟨n, j, none⟩ = false := by
  have h' : w.heap[n]? = _ := h
  simp [World.frozen?, h']

set_option maxHeartbeats 2000000 in
set_option maxRecDepth 100000 in
/-- add at an empty key. -/
theorem add_empty (n : Nat) (val x : ByteArray) (pr : Int) (nx tb r : Value) (w : World) (h : Node w n (⟨#[]⟩ : ByteArray) 0 x nx tb) :
    Calls Try.prog 59 #[.pointer (some ⟨n, 0, none⟩), .string (⟨#[]⟩ : ByteArray), .string val, .int .i64 pr, r] w fun e w' => e = .returned (.tuple #[]) ∧ Node w' n val pr x nx tb ∧ Mod w w' (fun i => i = n) := by
  have c1 := h.c1
  have c0 := h.c0
  have f0 := h.fz 0
  have f1 := h.fz 1
  have HN := Aside0.mk h
  clear h
  go_enter Try.func59, Try.ntmps59
  go_wp2
  repeat (go_quiet (fail); try go_wp2)
  refine bodyPost_ret (results_none rfl _ _ _) rfl ?_
  refine ⟨rfl, ?_, ((Mod.refl w (fun i => i = n)).setCell ⟨n, 0, none⟩ _ (.inl rfl)).setCell ⟨n, 1, none⟩ _ (.inl rfl)⟩
  have hb := HN.out
  unfold Node at hb ⊢
  simp [World.setCell, Array.getElem?_modify, hb]
theorem Node.fresh (w : World) : Node (w.alloc (.cells #[.string (⟨#[]⟩ : ByteArray), .int .i64 0, .string (⟨#[]⟩ : ByteArray), .pointer none, .slice none 0 0] 98)) w.heap.size (⟨#[]⟩ : ByteArray) 0 (⟨#[]⟩ : ByteArray) (.pointer none) (.slice none 0 0) := by
  unfold Node
  exact blk_new w _

theorem Node.fresh' (w : World) {n : Nat} (h : w.heap.size = n) : Node (w.alloc (.cells #[.string (⟨#[]⟩ : ByteArray), .int .i64 0, .string (⟨#[]⟩ : ByteArray), .pointer none, .slice none 0 0] 98)) n (⟨#[]⟩ : ByteArray) 0 (⟨#[]⟩ : ByteArray) (.pointer none) (.slice none 0 0) := by
  subst h; exact Node.fresh w
theorem neq_nil (a : Option Addr) (n c : Nat) (w : World) : (binOp .neq 96 (.slice a n c) (.slice none 0 0)).run Try.prog w = .ok (.bool (!a.isNone)) w := run_neq_slice_nil_any w 96 95 a n c 0 0 Try.underlying96
set_option maxHeartbeats 2000000 in
set_option maxRecDepth 100000 in
/-- add at a node that is still bare: "2e". -/
theorem add_leaf (n : Nat) (val v : ByteArray) (p pr : Int) (nx r : Value) (w : World) (h : Node w n v p (⟨#[]⟩ : ByteArray) nx (.slice none 0 0)) :
    Calls Try.prog 59 #[.pointer (some ⟨n, 0, none⟩), .string (⟨#[50, 101]⟩ : ByteArray), .string val, .int .i64 pr, r] w fun e w' => e = .returned (.tuple #[]) ∧
      ∃ m, w.heap.size ≤ m ∧ Node w' n v p (⟨#[50, 101]⟩ : ByteArray) (.pointer (some ⟨m, 0, none⟩)) (.slice none 0 0) ∧ Node w' m val pr (⟨#[]⟩ : ByteArray) (.pointer none) (.slice none 0 0) ∧ Mod w w' (fun i => i = n) := by
  have c2 := h.c2
  have c3 := h.c3
  have c4 := h.c4
  have f2 := h.fz 2
  have f3 := h.fz 3
  have hnq := neq_nil
  have hlt := h.lt
  have HN := Aside0.mk h
  clear h
  go_enter Try.func59, Try.ntmps59
  go_wp2_with (go_at_call 59; refine (add_empty w.heap.size val (⟨#[]⟩ : ByteArray) pr (.pointer none) (.slice none 0 0) r _ (Node.fresh' _ (by simp [World.setCell]))).mono ?_; rintro e w1 ⟨rfl, hN1, hM1⟩)
  go_end0
  have hb := HN.out
  have hs : ((w.setCell ⟨n, 2, none⟩ (.string (⟨#[50, 101]⟩ : ByteArray))).setCell ⟨n, 3, none⟩ (.pointer (some ⟨w.heap.size, 0, none⟩))).heap.size = w.heap.size := by simp [World.setCell]
  have hm2 : Mod w ((w.setCell ⟨n, 2, none⟩ (.string (⟨#[50, 101]⟩ : ByteArray))).setCell ⟨n, 3, none⟩ (.pointer (some ⟨w.heap.size, 0, none⟩))) (fun i => i = n) := ((Mod.refl w (fun i => i = n)).setCell ⟨n, 2, none⟩ _ (.inl rfl)).setCell ⟨n, 3, none⟩ _ (.inl rfl)
  have hn2 : Node ((w.setCell ⟨n, 2, none⟩ (.string (⟨#[50, 101]⟩ : ByteArray))).setCell ⟨n, 3, none⟩ (.pointer (some ⟨w.heap.size, 0, none⟩))) n v p (⟨#[50, 101]⟩ : ByteArray) (.pointer (some ⟨w.heap.size, 0, none⟩)) (.slice none 0 0) := by
    unfold Node at hb ⊢
    simp [World.setCell, Array.getElem?_modify, hb]
  refine ⟨rfl, w.heap.size, Nat.le_refl _, (Node.mod (hn2.mod (Mod.alloc (Mod.refl _ (fun _ => False)) _) (fun h => h)) hM1 (by omega)), hN1, (hm2.alloc _).trans hM1 (fun i hi e => by omega)⟩
end Go.Proofs.Ytedkaedeahobjaa
