/- (*strings.Replacer).build, buildOnce, and sync.Once over them. -/
import Derived.Test.YtedkaedeahobjaaSync
namespace Go.Proofs.Ytedkaedeahobjaa
open Go.RowKit Go.Proofs.YtedkaedeahobjaaW.PrintWords
set_option linter.unusedVariables false
set_option linter.unusedSimpArgs false

/-- A strings.Replacer in memory: done, the lock's two words, the replacer, the pairs. -/
def Rw (w : World) (r : Nat) (a b s : Int) (i o : Value) : Prop := w.heap[r]? = some (.cells #[.int .u32 a, .int .i32 b, .int .u32 s, i, o] 67 (0, 0))
theorem Rw.lt {w : World} {r : Nat} {a b s : Int} {i o : Value} (h : Rw w r a b s i o) : r < w.heap.size := (Array.getElem?_eq_some_iff.1 h).1
theorem Rw.mod {w w' : World} {S : Nat → Prop} {r : Nat} {a b s : Int} {i o : Value} (h : Rw w r a b s i o) (hm : Mod w w' S) (hn : ¬ S r) : Rw w' r a b s i o := (hm.block r h.lt hn).trans h
theorem Rw.below {w w' : World} {B : Nat} {r : Nat} {a b s : Int} {i o : Value} (h : Rw w r a b s i o) (hm : Below B w w') (hn : r < B) : Rw w' r a b s i o := (hm.block r hn).trans h
theorem Rw.c0 {w : World} {r : Nat} {a b s : Int} {i o : Value} (h : Rw w r a b s i o) : w.cell? ⟨r, 0, none⟩ = some (.int .u32 a) := by have := cell_of_row w r 0 _ _ _ h; simpa using this
theorem Rw.c1 {w : World} {r : Nat} {a b s : Int} {i o : Value} (h : Rw w r a b s i o) : w.cell? ⟨r, 1, none⟩ = some (.int .i32 b) := by have := cell_of_row w r 1 _ _ _ h; simpa using this
theorem Rw.c3 {w : World} {r : Nat} {a b s : Int} {i o : Value} (h : Rw w r a b s i o) : w.cell? ⟨r, 3, none⟩ = some i := by have := cell_of_row w r 3 _ _ _ h; simpa using this
theorem Rw.c4 {w : World} {r : Nat} {a b s : Int} {i o : Value} (h : Rw w r a b s i o) : w.cell? ⟨r, 4, none⟩ = some o := by have := cell_of_row w r 4 _ _ _ h; simpa using this
theorem Rw.fz {w : World} {r : Nat} {a b s : Int} {i o : Value} (h : Rw w r a b s i o) (j : Nat) : w.frozen? ⟨r, j, none⟩ = false := by
  have h' : w.heap[r]? = _ := h
  simp [World.frozen?, h']
theorem Rw.put0 {w : World} {r : Nat} {a b s : Int} {i o : Value} (h : Rw w r a b s i o) (x : Int) : Rw (w.setCell ⟨r, 0, none⟩ (.int .u32 x)) r x b s i o := by
  unfold Rw at h ⊢; simp [World.setCell, Array.getElem?_modify, h]
theorem Rw.put1 {w : World} {r : Nat} {a b s : Int} {i o : Value} (h : Rw w r a b s i o) (x : Int) : Rw (w.setCell ⟨r, 1, none⟩ (.int .i32 x)) r a x s i o := by
  unfold Rw at h ⊢; simp [World.setCell, Array.getElem?_modify, h]
theorem Rw.put3 {w : World} {r : Nat} {a b s : Int} {i o : Value} (h : Rw w r a b s i o) (x : Value) : Rw (w.setCell ⟨r, 3, none⟩ x) r a b s x o := by
  unfold Rw at h ⊢; simp [World.setCell, Array.getElem?_modify, h]
theorem Rw.put4 {w : World} {r : Nat} {a b s : Int} {i o : Value} (h : Rw w r a b s i o) (x : Value) : Rw (w.setCell ⟨r, 4, none⟩ x) r a b s i x := by
  unfold Rw at h ⊢; simp [World.setCell, Array.getElem?_modify, h]

theorem GR.mod {w w' : World} {S : Nat → Prop} {B g : Nat} (h : GR w B g) (hm : Mod w w' S) (hn : ∀ i, B ≤ i → ¬ S i) : GR w' B g := by
  obtain ⟨M, T, n1, n3, T3, k, m, ⟨b1, b2, b3, b4, b5, b6, b7⟩, hg, hM, hT, hn1, hn3, hT3, hk, hm'⟩ := h
  exact ⟨M, T, n1, n3, T3, k, m, ⟨b1, b2, b3, b4, b5, b6, b7⟩, (hm.block _ (Array.getElem?_eq_some_iff.1 hg).1 (hn _ b1)).trans hg, hM, (hm.block _ (Array.getElem?_eq_some_iff.1 hT).1 (hn _ b2)).trans hT,
    hn1.mod hm (hn _ b3), hn3.mod hm (hn _ b4), (hm.block _ (Array.getElem?_eq_some_iff.1 hT3).1 (hn _ b5)).trans hT3, hk.mod hm (hn _ b6), hm'.mod hm (hn _ b7)⟩
/-- The four pairs' words behind address c. -/
def Pairs (w : World) (c : Nat) : Prop := w.cell? ⟨c, 0, none⟩ = some (.string ⟨#[37, 50, 101]⟩) ∧ w.cell? ⟨c, 1, none⟩ = some (.string ⟨#[46]⟩) ∧ w.cell? ⟨c, 2, none⟩ = some (.string ⟨#[37, 50, 69]⟩) ∧ w.cell? ⟨c, 3, none⟩ = some (.string ⟨#[46]⟩)
theorem Pairs.mod {w w' : World} {S : Nat → Prop} {c : Nat} (h : Pairs w c) (hm : Mod w w' S) (hc : c < w.heap.size) (hn : ¬ S c) : Pairs w' c := ⟨hm.cell hc hn h.1, hm.cell hc hn h.2.1, hm.cell hc hn h.2.2.1, hm.cell hc hn h.2.2.2⟩
theorem Mod.ofBelow {w w' : World} (h : Below w.heap.size w w') (S : Nat → Prop) : Mod w w' S := ⟨h.os, h.tape, h.output, h.size, fun i hi _ => h.block i hi⟩

set_option maxHeartbeats 2000000 in
set_option maxRecDepth 100000 in
theorem build_walk (r c cp : Nat) (a b s : Int) (w : World) (h : Rw w r a b s .nilIface (.slice (some ⟨c, 0, none⟩) 4 cp)) (h0 : w.cell? ⟨c, 0, none⟩ = some (.string ⟨#[37, 50, 101]⟩)) (h1 : w.cell? ⟨c, 1, none⟩ = some (.string ⟨#[46]⟩)) (h2 : w.cell? ⟨c, 2, none⟩ = some (.string ⟨#[37, 50, 69]⟩)) (h3 : w.cell? ⟨c, 3, none⟩ = some (.string ⟨#[46]⟩)) :
    Calls Try.prog 47 #[.pointer (some ⟨r, 0, none⟩)] w fun e w' => ∃ g, e = .returned (.iface 79 (.pointer (some ⟨g, 0, none⟩))) ∧ GR w' w.heap.size g ∧ Below w.heap.size w w' := by
  have c4 := h.c4
  have H0 := Aside0.mk h0
  have H1 := Aside0.mk h1
  have H2 := Aside0.mk h2
  have H3 := Aside0.mk h3
  clear h h1 h2 h3
  go_enter Try.func47, Try.ntmps47
  go_wp2
  go_loop [5] (fun v5 => v5 = .int .i64 0) (fun _ => 0)
  case atStart => rfl
  case round =>
    obtain rfl := hrel
    go_wp2_with (go_at_call 53; refine (gen_walk c cp w H0.out H1.out H2.out H3.out).mono ?_; rintro e w1 ⟨g, rfl, hG, hB⟩)
    go_ret
    exact ⟨g, rfl, hG, hB⟩

set_option maxHeartbeats 2000000 in
set_option maxRecDepth 100000 in
theorem buildOnce_walk (r c cp : Nat) (a b s : Int) (w : World) (h : Rw w r a b s .nilIface (.slice (some ⟨c, 0, none⟩) 4 cp)) (hp : Pairs w c) :
    Calls Try.prog 42 #[.pointer (some ⟨r, 0, none⟩)] w fun e w' => e = .returned (.tuple #[]) ∧ ∃ g, Rw w' r a b s (.iface 79 (.pointer (some ⟨g, 0, none⟩))) (.slice none 0 0) ∧ GR w' w.heap.size g ∧ Mod w w' (fun i => i = r) := by
  obtain ⟨h0, h1, h2, h3⟩ := hp
  have H := Aside0.mk h
  have hlt := h.lt
  clear h
  go_enter Try.func42, Try.ntmps42
  go_wp2_with (go_at_call 47; refine (build_walk r c cp a b s w H.out h0 h1 h2 h3).mono ?_; rintro e w1 ⟨g, rfl, hG, hB⟩; have H1 := H.out.below hB hlt; have d3 := H1.c3; have d4 := H1.c4; have f3 := H1.fz 3; have f4 := H1.fz 4; have H1' := Aside0.mk H1; have HG := Aside0.mk hG; have HB := Aside0.mk hB; clear hG hB H1 h0 h1 h2 h3)
  go_wp2
  go_end0
  have hm : Mod w1 ((w1.setCell ⟨r, 3, none⟩ (.iface 79 (.pointer (some ⟨g, 0, none⟩)))).setCell ⟨r, 4, none⟩ (.slice none 0 0)) (fun i => i = r) := ((Mod.refl w1 (fun i => i = r)).setCell ⟨r, 3, none⟩ _ (.inl rfl)).setCell ⟨r, 4, none⟩ _ (.inl rfl)
  exact ⟨rfl, g, (H1'.out.put3 _).put4 _, HG.out.mod hm (fun i hi e => by omega), (Mod.ofBelow HB.out _).trans hm (fun _ _ h => h)⟩

theorem done_calls (r : Nat) (x : Int) (w : World) (h0 : w.cell? ⟨r, 0, none⟩ = some (.int .u32 x)) : Calls Try.prog 45 #[.pointer (some ⟨r, 0, none⟩)] w fun e w' => e = .returned (.bool (x != 0)) ∧ w' = w := by
  have hl := run_call_load (P := Try.prog) Try.func48 (by kernel_rfl) (by kernel_rfl) (by kernel_rfl) .u32 (by kernel_rfl) h0
  go_enter Try.func45, Try.ntmps45
  go_wp2
  go_ret
  exact ⟨rfl, rfl⟩

set_option maxHeartbeats 2000000 in
set_option maxRecDepth 100000 in
theorem slow_walk (r c cp : Nat) (w : World) (h : Rw w r 0 0 0 .nilIface (.slice (some ⟨c, 0, none⟩) 4 cp)) (hp : Pairs w c) (hc : c < w.heap.size) (hcr : c ≠ r) :
    Calls Try.prog 46 #[.pointer (some ⟨r, 0, none⟩), .func (.func 42) #[.pointer (some ⟨r, 0, none⟩)] #[]] w fun e w' => e = .returned (.tuple #[]) ∧
      ∃ g, Rw w' r 1 0 0 (.iface 79 (.pointer (some ⟨g, 0, none⟩))) (.slice none 0 0) ∧ GR w' w.heap.size g ∧ Mod w w' (fun i => i = r) := by
  have hlt := h.lt
  have c1 := h.c1
  have f1 := h.fz 1
  have hm1 : Mod w (w.setCell ⟨r, 1, none⟩ (.int .i32 1)) (fun i => i = r) := (Mod.refl w (fun i => i = r)).setCell ⟨r, 1, none⟩ _ (.inl rfl)
  have h1 := h.put1 1
  have p1 := hp.mod hm1 hc hcr
  have hs1 : (w.setCell ⟨r, 1, none⟩ (.int .i32 1)).heap.size = w.heap.size := size_setCell _ _ _
  have H1 := Aside0.mk h1
  have P1 := Aside0.mk p1
  have M1 := Aside0.mk hm1
  have C0 := Aside0.mk h1.c0
  have hnot : ∀ (x : Bool) (w : World), (Op.unary .not (.bool x)).run Try.prog w = .ok (.bool (!x)) w := fun _ _ => rfl
  clear h hp hm1 h1 p1
  go_enter_defers Try.func46, Try.ntmps46
  go_wp2_with (first | (go_at_call 49; refine (lock_free ⟨r, 1, none⟩ _ c1 f1).mono ?_; rintro e w' ⟨rfl, rfl⟩) | (go_at_call 45; refine (done_calls r 0 _ C0.out).mono ?_; rintro e w' ⟨rfl, rfl⟩) | (go_at_call 42; refine (buildOnce_walk r c cp 0 1 0 _ H1.out P1.out).mono ?_; rintro e w1 ⟨rfl, g, hR, hG, hM⟩))
  go_wp2
  rw [hs1] at hG
  refine leaves_cons (f := 51) (args := #[.pointer (some ⟨r, 0, none⟩), .bool true]) (by simp) (by simp [go_sem]) ?_
  refine (store_deferred ⟨r, 0, none⟩ (.int .u32 0) .returning _ hR.c0 (hR.fz 0)).mono ?_
  rintro e u' w'' ⟨rfl, rfl, rfl⟩
  have hR1 : Rw (w1.drew.setCell ⟨r, 0, none⟩ (.int .u32 1)) r 1 1 0 (.iface 79 (.pointer (some ⟨g, 0, none⟩))) (.slice none 0 0) := Rw.put0 (w := w1.drew) hR 1
  refine leaves_cons (f := 50) (args := #[.pointer (some ⟨r, 1, none⟩)]) (by simp [settle]) (by simp [go_sem]) ?_
  refine (unlock_deferred ⟨r, 1, none⟩ _ _ hR1.c1 (hR1.fz 1)).mono ?_
  rintro e u' w'' ⟨rfl, rfl, rfl⟩
  have hm : Mod w1 ((w1.drew.setCell ⟨r, 0, none⟩ (.int .u32 1)).setCell ⟨r, 1, none⟩ (.int .i32 0)) (fun i => i = r) := (Mod.setCell (Mod.setCell (Mod.drew (Mod.refl w1 (fun i => i = r))) ⟨r, 0, none⟩ _ (.inl rfl)) ⟨r, 1, none⟩ _ (.inl rfl))
  have hX := hR1.put1 0
  have hX2 := hG.mod hm (fun i hi e => by omega)
  have hX3 := (M1.out.trans hM (fun _ _ h => h)).trans hm (fun _ _ h => h)
  have hX4 : ∃ g, Rw ((w1.drew.setCell ⟨r, 0, none⟩ (.int .u32 1)).setCell ⟨r, 1, none⟩ (.int .i32 0)) r 1 0 0 (.iface 79 (.pointer (some ⟨g, 0, none⟩))) (.slice none 0 0) ∧ GR ((w1.drew.setCell ⟨r, 0, none⟩ (.int .u32 1)).setCell ⟨r, 1, none⟩ (.int .i32 0)) w.heap.size g ∧ Mod w ((w1.drew.setCell ⟨r, 0, none⟩ (.int .u32 1)).setCell ⟨r, 1, none⟩ (.int .i32 0)) (fun i => i = r) := ⟨g, hX, hX2, hX3⟩
  simpa [Leaves, settle, results, Try.results46] using hX4

set_option maxHeartbeats 2000000 in
set_option maxRecDepth 100000 in
theorem do_walk (r c cp : Nat) (w : World) (h : Rw w r 0 0 0 .nilIface (.slice (some ⟨c, 0, none⟩) 4 cp)) (hp : Pairs w c) (hc : c < w.heap.size) (hcr : c ≠ r) :
    Calls Try.prog 41 #[.pointer (some ⟨r, 0, none⟩), .func (.func 42) #[.pointer (some ⟨r, 0, none⟩)] #[]] w fun e w' => e = .returned (.tuple #[]) ∧
      ∃ g, Rw w' r 1 0 0 (.iface 79 (.pointer (some ⟨g, 0, none⟩))) (.slice none 0 0) ∧ GR w' w.heap.size g ∧ Mod w w' (fun i => i = r) := by
  have H := Aside0.mk h
  have P := Aside0.mk hp
  have C0 := Aside0.mk h.c0
  have hnot : ∀ (x : Bool) (w : World), (Op.unary .not (.bool x)).run Try.prog w = .ok (.bool (!x)) w := fun _ _ => rfl
  clear h hp
  go_enter Try.func41, Try.ntmps41
  go_wp2_with (first | (go_at_call 45; refine (done_calls r 0 _ C0.out).mono ?_; rintro e w' ⟨rfl, rfl⟩) | (go_at_call 46; refine (slow_walk r c cp _ H.out P.out hc hcr).mono ?_; rintro e w1 ⟨rfl, hQ⟩))
  go_end0
  exact ⟨rfl, hQ⟩
end Go.Proofs.Ytedkaedeahobjaa
