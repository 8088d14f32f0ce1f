/- (*trieNode).add at the root: "%2e", then "%2E". -/
import Derived.Test.YtedkaedeahobjaaSplit1
namespace Go.Proofs.Ytedkaedeahobjaa
open Go.RowKit Go.Proofs.YtedkaedeahobjaaW.PrintWords
set_option linter.unusedVariables false
set_option linter.unusedSimpArgs false

attribute [local go_sem] alloc_drewN setCell_drewN frozen_drewN
set_option maxHeartbeats 2000000 in
set_option maxRecDepth 100000 in
theorem root_one (g T : Nat) (val : ByteArray) (pr : Int) (w : World) (h2 : w.cell? ⟨g, 2, none⟩ = some (.string (⟨#[]⟩ : ByteArray))) (h4 : w.cell? ⟨g, 4, none⟩ = some (.slice (some ⟨T, 0, none⟩) 4 4)) (h43 : w.cell? ⟨g, 43, none⟩ = some (.int .u8 0))
    (hT : w.heap[T]? = some (.cells #[.pointer none, .pointer none, .pointer none, .pointer none] 95 (0, 0))) (hgT : g ≠ T) (hg : g < w.heap.size) :
    Calls Try.prog 59 #[.pointer (some ⟨g, 0, none⟩), .string (⟨#[37, 50, 101]⟩ : ByteArray), .string val, .int .i64 pr, .pointer (some ⟨g, 0, none⟩)] w fun e w' => e = .returned (.tuple #[]) ∧
      ∃ n m, w.heap.size ≤ n ∧ w.heap.size ≤ m ∧ w'.heap[T]? = some (.cells #[.pointer (some ⟨n, 0, none⟩), .pointer none, .pointer none, .pointer none] 95 (0, 0)) ∧
        Node w' n (⟨#[]⟩ : ByteArray) 0 (⟨#[50, 101]⟩ : ByteArray) (.pointer (some ⟨m, 0, none⟩)) (.slice none 0 0) ∧ Node w' m val pr (⟨#[]⟩ : ByteArray) (.pointer none) (.slice none 0 0) ∧ Mod w w' (fun i => i = T) := by
  have t0 : w.cell? ⟨T, 0, none⟩ = some (.pointer none) := by have := cell_of_row w T 0 _ _ _ hT; simpa using this
  have ft : w.frozen? ⟨T, 0, none⟩ = false := by simp [World.frozen?, hT]
  have hTl : T < w.heap.size := (Array.getElem?_eq_some_iff.1 hT).1
  have hmix : Try.prog.follows .mixedOrders = true := by kernel_rfl
  have hnq := neq_nil
  have x0 : ∀ h, (((⟨#[37, 50, 101]⟩ : ByteArray)[0]'h).toNat : Int) = 37 := fun _ => rfl
  have xe : (⟨#[37, 50, 101]⟩ : ByteArray).extract 1 3 = ⟨#[50, 101]⟩ := by rfl
  have HT := Aside0.mk hT
  clear hT
  go_enter Try.func59, Try.ntmps59
  go_wp2_with (go_at_call 59; fail)
  repeat (go_quiet (fail); try go_wp2_with (go_at_call 59; fail))
  have hYM : Mod w ((w.setCell ⟨T, 0, none⟩ (.pointer (some ⟨w.heap.size, 0, none⟩))).alloc (.cells #[.string (⟨#[]⟩ : ByteArray), .int .i64 0, .string (⟨#[]⟩ : ByteArray), .pointer none, .slice none 0 0] 98)) (fun i => i = T) := ((Mod.refl w (fun i => i = T)).setCell ⟨T, 0, none⟩ _ (.inl rfl)).alloc _
  have hYn : Node ((w.setCell ⟨T, 0, none⟩ (.pointer (some ⟨w.heap.size, 0, none⟩))).alloc (.cells #[.string (⟨#[]⟩ : ByteArray), .int .i64 0, .string (⟨#[]⟩ : ByteArray), .pointer none, .slice none 0 0] 98)) w.heap.size (⟨#[]⟩ : ByteArray) 0 (⟨#[]⟩ : ByteArray) (.pointer none) (.slice none 0 0) := one_new _ _ _ (size_setCell _ _ _)
  have hYT : ((w.setCell ⟨T, 0, none⟩ (.pointer (some ⟨w.heap.size, 0, none⟩))).alloc (.cells #[.string (⟨#[]⟩ : ByteArray), .int .i64 0, .string (⟨#[]⟩ : ByteArray), .pointer none, .slice none 0 0] 98)).heap[T]? = some (.cells #[.pointer (some ⟨w.heap.size, 0, none⟩), .pointer none, .pointer none, .pointer none] 95 (0, 0)) := by
    rw [Below.heap_alloc _ _ _ (by rw [size_setCell]; exact hTl)]
    have := HT.out
    simp [World.setCell, Array.getElem?_modify, this]
  have hYs : w.heap.size < ((w.setCell ⟨T, 0, none⟩ (.pointer (some ⟨w.heap.size, 0, none⟩))).alloc (.cells #[.string (⟨#[]⟩ : ByteArray), .int .i64 0, .string (⟨#[]⟩ : ByteArray), .pointer none, .slice none 0 0] 98)).heap.size := hYn.lt
  have HYM := Aside0.mk hYM
  have HYn := Aside0.mk hYn
  have HYT := Aside0.mk hYT
  clear hYM hYn hYT
  refine still_tail 12 hmix (by kernel_rfl) ?_
  simp only [List.take_succ_cons, List.take_zero, List.drop_succ_cons, List.drop_zero]
  repeat still_step
  try refine wpStill_nil ?_
  go_wp2_with (go_at_call 59; refine (add_leaf w.heap.size val (⟨#[]⟩ : ByteArray) 0 pr (.pointer none) (.pointer (some ⟨g, 0, none⟩)) (((w.setCell ⟨T, 0, none⟩ (.pointer (some ⟨w.heap.size, 0, none⟩))).alloc (.cells #[.string (⟨#[]⟩ : ByteArray), .int .i64 0, .string (⟨#[]⟩ : ByteArray), .pointer none, .slice none 0 0] 98)).drewN _) HYn.out).mono ?_; rintro e w1 ⟨rfl, m, hm, hN1, hN2, hM⟩)
  go_end0
  have hs2 : w.heap.size ≤ m := by have : ((w.setCell ⟨T, 0, none⟩ (.pointer (some ⟨w.heap.size, 0, none⟩))).alloc (.cells #[.string (⟨#[]⟩ : ByteArray), .int .i64 0, .string (⟨#[]⟩ : ByteArray), .pointer none, .slice none 0 0] 98)).heap.size ≤ m := hm; omega
  have hYT' : ∀ q, (((w.setCell ⟨T, 0, none⟩ (.pointer (some ⟨w.heap.size, 0, none⟩))).alloc (.cells #[.string (⟨#[]⟩ : ByteArray), .int .i64 0, .string (⟨#[]⟩ : ByteArray), .pointer none, .slice none 0 0] 98)).drewN q).heap[T]? = some (.cells #[.pointer (some ⟨w.heap.size, 0, none⟩), .pointer none, .pointer none, .pointer none] 95 (0, 0)) := fun _ => HYT.out
  have hYM' : ∀ q, Mod w (((w.setCell ⟨T, 0, none⟩ (.pointer (some ⟨w.heap.size, 0, none⟩))).alloc (.cells #[.string (⟨#[]⟩ : ByteArray), .int .i64 0, .string (⟨#[]⟩ : ByteArray), .pointer none, .slice none 0 0] 98)).drewN q) (fun i => i = T) := fun q => Mod.drewN HYM.out q
  have hTs : T < ((w.setCell ⟨T, 0, none⟩ (.pointer (some ⟨w.heap.size, 0, none⟩))).alloc (.cells #[.string (⟨#[]⟩ : ByteArray), .int .i64 0, .string (⟨#[]⟩ : ByteArray), .pointer none, .slice none 0 0] 98)).heap.size := by omega
  exact ⟨rfl, w.heap.size, m, Nat.le_refl _, hs2, (hM.block T hTs (by omega)).trans (hYT' _), hN1, hN2, (hYM' _).trans hM (fun i hi e => by omega)⟩

set_option maxHeartbeats 2000000 in
set_option maxRecDepth 100000 in
theorem root_two (g T n1 m2 : Nat) (val : ByteArray) (pr : Int) (w : World) (h2 : w.cell? ⟨g, 2, none⟩ = some (.string (⟨#[]⟩ : ByteArray))) (h4 : w.cell? ⟨g, 4, none⟩ = some (.slice (some ⟨T, 0, none⟩) 4 4)) (h43 : w.cell? ⟨g, 43, none⟩ = some (.int .u8 0))
    (r5 : w.cell? ⟨g, 5, none⟩ = some (.int .i64 4)) (re : w.cell? ⟨g, 107, none⟩ = some (.int .u8 3)) (rE : w.cell? ⟨g, 75, none⟩ = some (.int .u8 2))
    (hT : w.heap[T]? = some (.cells #[.pointer (some ⟨n1, 0, none⟩), .pointer none, .pointer none, .pointer none] 95 (0, 0))) (hN : Node w n1 (⟨#[]⟩ : ByteArray) 0 (⟨#[50, 101]⟩ : ByteArray) (.pointer (some ⟨m2, 0, none⟩)) (.slice none 0 0)) (hgn : n1 ≠ g) (hg : g < w.heap.size) :
    Calls Try.prog 59 #[.pointer (some ⟨g, 0, none⟩), .string (⟨#[37, 50, 69]⟩ : ByteArray), .string val, .int .i64 pr, .pointer (some ⟨g, 0, none⟩)] w fun e w' => e = .returned (.tuple #[]) ∧
      ∃ n3 k T3, w.heap.size ≤ n3 ∧ w.heap.size ≤ k ∧ w.heap.size ≤ T3 ∧ Node w' n1 (⟨#[]⟩ : ByteArray) 0 (⟨#[50]⟩ : ByteArray) (.pointer (some ⟨n3, 0, none⟩)) (.slice none 0 0) ∧
        Node w' n3 (⟨#[]⟩ : ByteArray) 0 (⟨#[]⟩ : ByteArray) (.pointer none) (.slice (some ⟨T3, 0, none⟩) 4 4) ∧ Node w' k val pr (⟨#[]⟩ : ByteArray) (.pointer none) (.slice none 0 0) ∧
        w'.heap[T3]? = some (.cells #[.pointer none, .pointer none, .pointer (some ⟨k, 0, none⟩), .pointer (some ⟨m2, 0, none⟩)] 95 (0, 0)) ∧ Mod w w' (fun i => i = n1) := by
  have t0 : w.cell? ⟨T, 0, none⟩ = some (.pointer (some ⟨n1, 0, none⟩)) := by have := cell_of_row w T 0 _ _ _ hT; simpa using this
  have hmix : Try.prog.follows .mixedOrders = true := by kernel_rfl
  have hnq := neq_nil
  have x0 : ∀ h, (((⟨#[37, 50, 69]⟩ : ByteArray)[0]'h).toNat : Int) = 37 := fun _ => rfl
  have xe : (⟨#[37, 50, 69]⟩ : ByteArray).extract 1 3 = ⟨#[50, 69]⟩ := by rfl
  have HT := Aside0.mk hT
  have HN := Aside0.mk hN
  have R5 := Aside0.mk r5
  have Re := Aside0.mk re
  have RE := Aside0.mk rE
  clear hT hN r5 re rE
  go_enter Try.func59, Try.ntmps59
  go_wp2_with (go_at_call 59; fail)
  repeat (go_quiet (fail); try go_wp2_with (go_at_call 59; fail))
  refine still_tail 12 hmix (by kernel_rfl) ?_
  simp only [List.take_succ_cons, List.take_zero, List.drop_succ_cons, List.drop_zero]
  repeat still_step
  try refine wpStill_nil ?_
  go_wp2_with (go_at_call 59; refine (add_split1 n1 m2 g val pr (w.drewN _) HN.out hg hgn R5.out Re.out RE.out).mono ?_; rintro e w1 ⟨rfl, n3, k, T3, hn3, hk, hT3, hN1, hN3, hNk, hrow, hM⟩)
  go_end0
  exact ⟨rfl, n3, k, T3, hn3, hk, hT3, hN1, hN3, hNk, hrow, Mod.trans (Mod.drewN (Mod.refl w (fun i => i = n1)) _) hM (fun i hi e => e)⟩
end Go.Proofs.Ytedkaedeahobjaa
