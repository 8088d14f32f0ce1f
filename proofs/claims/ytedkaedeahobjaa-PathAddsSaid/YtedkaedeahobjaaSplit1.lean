/- (*trieNode).add of "2E" at a node whose prefix is "2e". -/
import Derived.Test.YtedkaedeahobjaaSplit
namespace Go.Proofs.Ytedkaedeahobjaa
open Go.RowKit Go.Proofs.YtedkaedeahobjaaW.PrintWords
set_option linter.unusedVariables false
set_option linter.unusedSimpArgs false

attribute [local go_sem] alloc_drewN setCell_drewN frozen_drewN
set_option maxHeartbeats 2000000 in
set_option maxRecDepth 100000 in
theorem add_split1 (n m2 g : Nat) (val : ByteArray) (pr : Int) (w : World) (h : Node w n (⟨#[]⟩ : ByteArray) 0 (⟨#[50, 101]⟩ : ByteArray) (.pointer (some ⟨m2, 0, none⟩)) (.slice none 0 0)) (hg : g < w.heap.size) (hng : n ≠ g)
    (r5 : w.cell? ⟨g, 5, none⟩ = some (.int .i64 4)) (re : w.cell? ⟨g, 107, none⟩ = some (.int .u8 3)) (rE : w.cell? ⟨g, 75, none⟩ = some (.int .u8 2)) :
    Calls Try.prog 59 #[.pointer (some ⟨n, 0, none⟩), .string (⟨#[50, 69]⟩ : ByteArray), .string val, .int .i64 pr, .pointer (some ⟨g, 0, none⟩)] w fun e w' => e = .returned (.tuple #[]) ∧
      ∃ n3 k T, w.heap.size ≤ n3 ∧ w.heap.size ≤ k ∧ w.heap.size ≤ T ∧ Node w' n (⟨#[]⟩ : ByteArray) 0 (⟨#[50]⟩ : ByteArray) (.pointer (some ⟨n3, 0, none⟩)) (.slice none 0 0) ∧
        Node w' n3 (⟨#[]⟩ : ByteArray) 0 (⟨#[]⟩ : ByteArray) (.pointer none) (.slice (some ⟨T, 0, none⟩) 4 4) ∧ Node w' k val pr (⟨#[]⟩ : ByteArray) (.pointer none) (.slice none 0 0) ∧
        w'.heap[T]? = some (.cells #[.pointer none, .pointer none, .pointer (some ⟨k, 0, none⟩), .pointer (some ⟨m2, 0, none⟩)] 95 (0, 0)) ∧ Mod w w' (fun i => i = n) := by
  have c2 := h.c2
  have c3 := h.c3
  have f2 := h.fz 2
  have f3 := h.fz 3
  have hlt := h.lt
  have x0 : ∀ h, (((⟨#[50, 101]⟩ : ByteArray)[0]'h).toNat : Int) = 50 := fun _ => rfl
  have x1 : ∀ h, (((⟨#[50, 101]⟩ : ByteArray)[1]'h).toNat : Int) = 101 := fun _ => rfl
  have y0 : ∀ h, (((⟨#[50, 69]⟩ : ByteArray)[0]'h).toNat : Int) = 50 := fun _ => rfl
  have y1 : ∀ h, (((⟨#[50, 69]⟩ : ByteArray)[1]'h).toNat : Int) = 69 := fun _ => rfl
  have R5 := Aside0.mk r5
  have Re := Aside0.mk re
  have RE := Aside0.mk rE
  have HN := Aside0.mk h
  have n1 : ¬ n = w.heap.size := by omega
  clear h r5 re rE
  have xe : (⟨#[50, 69]⟩ : ByteArray).extract 1 2 = ⟨#[69]⟩ := by rfl
  have xf : (⟨#[50, 101]⟩ : ByteArray).extract 1 2 = ⟨#[101]⟩ := by rfl
  have xg : (⟨#[50, 101]⟩ : ByteArray).extract 0 1 = ⟨#[50]⟩ := by rfl
  have hmix : Try.prog.follows .mixedOrders = true := by kernel_rfl
  go_enter Try.func59, Try.ntmps59
  go_wp2_with (go_at_call 59; fail)
  go_loopw [10] (fun v10 wr => (v10 = .int .i64 0 ∨ v10 = .int .i64 1) ∧ ∃ q, wr = w.drewN q) (fun v _ => 2 - (intOf v).toNat)
  case atStart => exact ⟨.inl rfl, 0, rfl⟩
  case round =>
    obtain ⟨rfl | rfl, q, rfl⟩ := hrel
    · go_wp2_with (go_at_call 59; fail)
      repeat (go_quiet (fail); try go_wp2_with (go_at_call 59; fail))
      exact ⟨⟨.inr rfl, _, rfl⟩, by simp [intOf]⟩
    · go_wp2_with (go_at_call 59; fail)
      repeat (go_quiet (fail); try go_wp2_with (go_at_call 59; fail))
      refine still_tail 11 hmix (by kernel_rfl) ?_
      simp only [List.take_succ_cons, List.take_zero, List.drop_succ_cons, List.drop_zero]
      repeat still_step
      try refine wpStill_nil ?_
      have hb := HN.out
      have hYM : Mod w (((w.setCell ⟨n, 2, none⟩ (.string (⟨#[50]⟩ : ByteArray))).setCell ⟨n, 3, none⟩ (.pointer (some ⟨w.heap.size, 0, none⟩))).alloc (.cells #[.string (⟨#[]⟩ : ByteArray), .int .i64 0, .string (⟨#[101]⟩ : ByteArray), .pointer (some ⟨m2, 0, none⟩), .slice none 0 0] 98)) (fun i => i = n) := (((Mod.refl w (fun i => i = n)).setCell ⟨n, 2, none⟩ _ (.inl rfl)).setCell ⟨n, 3, none⟩ _ (.inl rfl)).alloc _
      have hYk : Node (((w.setCell ⟨n, 2, none⟩ (.string (⟨#[50]⟩ : ByteArray))).setCell ⟨n, 3, none⟩ (.pointer (some ⟨w.heap.size, 0, none⟩))).alloc (.cells #[.string (⟨#[]⟩ : ByteArray), .int .i64 0, .string (⟨#[101]⟩ : ByteArray), .pointer (some ⟨m2, 0, none⟩), .slice none 0 0] 98)) w.heap.size (⟨#[]⟩ : ByteArray) 0 (⟨#[101]⟩ : ByteArray) (.pointer (some ⟨m2, 0, none⟩)) (.slice none 0 0) := one_new _ _ _ (by rw [size_setCell, size_setCell])
      have hYn : Node (((w.setCell ⟨n, 2, none⟩ (.string (⟨#[50]⟩ : ByteArray))).setCell ⟨n, 3, none⟩ (.pointer (some ⟨w.heap.size, 0, none⟩))).alloc (.cells #[.string (⟨#[]⟩ : ByteArray), .int .i64 0, .string (⟨#[101]⟩ : ByteArray), .pointer (some ⟨m2, 0, none⟩), .slice none 0 0] 98)) n (⟨#[]⟩ : ByteArray) 0 (⟨#[50]⟩ : ByteArray) (.pointer (some ⟨w.heap.size, 0, none⟩)) (.slice none 0 0) := by
        refine Node.mod (S := fun _ => False) ?_ (Mod.alloc (Mod.refl _ _) _) (fun h => h)
        unfold Node at hb ⊢
        simp [World.setCell, Array.getElem?_modify, hb]
      have hYs : w.heap.size < (((w.setCell ⟨n, 2, none⟩ (.string (⟨#[50]⟩ : ByteArray))).setCell ⟨n, 3, none⟩ (.pointer (some ⟨w.heap.size, 0, none⟩))).alloc (.cells #[.string (⟨#[]⟩ : ByteArray), .int .i64 0, .string (⟨#[101]⟩ : ByteArray), .pointer (some ⟨m2, 0, none⟩), .slice none 0 0] 98)).heap.size := hYk.lt
      have HYM := Aside0.mk hYM
      have HYk := Aside0.mk hYk
      have HYn := Aside0.mk hYn
      have z5 := Aside0.mk (hYM.cell hg hng.symm R5.out)
      have ze := Aside0.mk (hYM.cell hg hng.symm Re.out)
      have zE := Aside0.mk (hYM.cell hg hng.symm RE.out)
      have hgY := Aside0.mk (Nat.lt_trans hg hYs)
      have hkg : w.heap.size ≠ g := by omega
      clear hYM hYk hYn hb
      go_wp2_with (go_at_call 59; refine (add_split0 w.heap.size m2 g val pr ((((w.setCell ⟨n, 2, none⟩ (.string (⟨#[50]⟩ : ByteArray))).setCell ⟨n, 3, none⟩ (.pointer (some ⟨w.heap.size, 0, none⟩))).alloc (.cells #[.string (⟨#[]⟩ : ByteArray), .int .i64 0, .string (⟨#[101]⟩ : ByteArray), .pointer (some ⟨m2, 0, none⟩), .slice none 0 0] 98)).drewN _) HYk.out hgY.out hkg z5.out ze.out zE.out).mono ?_; rintro e w1 ⟨rfl, k, T, hk, hT, hN3, hN4, hrow, hM⟩)
      go_end0
      have hs2 : w.heap.size ≤ k := by have : (((w.setCell ⟨n, 2, none⟩ (.string (⟨#[50]⟩ : ByteArray))).setCell ⟨n, 3, none⟩ (.pointer (some ⟨w.heap.size, 0, none⟩))).alloc (.cells #[.string (⟨#[]⟩ : ByteArray), .int .i64 0, .string (⟨#[101]⟩ : ByteArray), .pointer (some ⟨m2, 0, none⟩), .slice none 0 0] 98)).heap.size ≤ k := hk; omega
      have hs3 : w.heap.size ≤ T := by have : (((w.setCell ⟨n, 2, none⟩ (.string (⟨#[50]⟩ : ByteArray))).setCell ⟨n, 3, none⟩ (.pointer (some ⟨w.heap.size, 0, none⟩))).alloc (.cells #[.string (⟨#[]⟩ : ByteArray), .int .i64 0, .string (⟨#[101]⟩ : ByteArray), .pointer (some ⟨m2, 0, none⟩), .slice none 0 0] 98)).heap.size ≤ T := hT; omega
      have hYn' : ∀ q, Node ((((w.setCell ⟨n, 2, none⟩ (.string (⟨#[50]⟩ : ByteArray))).setCell ⟨n, 3, none⟩ (.pointer (some ⟨w.heap.size, 0, none⟩))).alloc (.cells #[.string (⟨#[]⟩ : ByteArray), .int .i64 0, .string (⟨#[101]⟩ : ByteArray), .pointer (some ⟨m2, 0, none⟩), .slice none 0 0] 98)).drewN q) n (⟨#[]⟩ : ByteArray) 0 (⟨#[50]⟩ : ByteArray) (.pointer (some ⟨w.heap.size, 0, none⟩)) (.slice none 0 0) := fun _ => HYn.out
      have hYM' : ∀ q, Mod w ((((w.setCell ⟨n, 2, none⟩ (.string (⟨#[50]⟩ : ByteArray))).setCell ⟨n, 3, none⟩ (.pointer (some ⟨w.heap.size, 0, none⟩))).alloc (.cells #[.string (⟨#[]⟩ : ByteArray), .int .i64 0, .string (⟨#[101]⟩ : ByteArray), .pointer (some ⟨m2, 0, none⟩), .slice none 0 0] 98)).drewN q) (fun i => i = n) := fun q => Mod.drewN HYM.out q
      exact ⟨rfl, w.heap.size, k, T, Nat.le_refl _, hs2, hs3, (hYn' _).mod hM n1, hN3, hN4, hrow, (hYM' _).trans hM (fun i hi e => by omega)⟩
end Go.Proofs.Ytedkaedeahobjaa
