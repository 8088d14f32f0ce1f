/- (*trieNode).add where the node's prefix is split. -/
import Derived.Test.YtedkaedeahobjaaNode
namespace Go.Proofs.Ytedkaedeahobjaa
open Go.RowKit Go.Proofs.YtedkaedeahobjaaW.PrintWords
set_option linter.unusedVariables false
set_option linter.unusedSimpArgs false

theorem made4 : madeCells #[Value.pointer none] 4 = #[.pointer none, .pointer none, .pointer none, .pointer none] := by kernel_rfl
attribute [local go_sem] alloc_drewN setCell_drewN frozen_drewN
set_option maxHeartbeats 2000000 in
set_option maxRecDepth 100000 in
/-- add "E" at a node whose prefix is "e". -/
theorem add_split0 (n m2 g : Nat) (val : ByteArray) (pr : Int) (w : World) (h : Node w n (⟨#[]⟩ : ByteArray) 0 (⟨#[101]⟩ : ByteArray) (.pointer (some ⟨m2, 0, none⟩)) (.slice none 0 0)) (hg : g < w.heap.size) (hng : n ≠ g)
    (r5 : w.cell? ⟨g, 5, none⟩ = some (.int .i64 4)) (re : w.cell? ⟨g, 107, none⟩ = some (.int .u8 3)) (rE : w.cell? ⟨g, 75, none⟩ = some (.int .u8 2)) :
    Calls Try.prog 59 #[.pointer (some ⟨n, 0, none⟩), .string (⟨#[69]⟩ : ByteArray), .string val, .int .i64 pr, .pointer (some ⟨g, 0, none⟩)] w fun e w' => e = .returned (.tuple #[]) ∧
      ∃ k T, w.heap.size ≤ k ∧ w.heap.size ≤ T ∧ Node w' n (⟨#[]⟩ : ByteArray) 0 (⟨#[]⟩ : ByteArray) (.pointer none) (.slice (some ⟨T, 0, none⟩) 4 4) ∧ Node w' k val pr (⟨#[]⟩ : ByteArray) (.pointer none) (.slice none 0 0) ∧
        w'.heap[T]? = some (.cells #[.pointer none, .pointer none, .pointer (some ⟨k, 0, none⟩), .pointer (some ⟨m2, 0, none⟩)] 95 (0, 0)) ∧ Mod w w' (fun i => i = n) := by
  have c1 := h.c1
  have c2 := h.c2
  have c3 := h.c3
  have c4 := h.c4
  have f2 := h.fz 2
  have f3 := h.fz 3
  have f4 := h.fz 4
  have hnq := neq_nil
  have hmix : Try.prog.follows .mixedOrders = true := by kernel_rfl
  have hmk : ∀ W : World, (Instr.makeSlice 96 (.int .i64 4) (.int .i64 4)).run Try.prog W = .ok (.slice (some ⟨W.heap.size, 0, none⟩) 4 4) (W.alloc (.cells (madeCells #[.pointer none] 4) 95)) := fun W => by
    have := print_make_of (P := Try.prog) 96 95 (.pointer none) 8 Try.underlying96 (by kernel_rfl) rfl (by omega) 4 (by omega) W
    exact this
  have x101 : ∀ h, (((⟨#[101]⟩ : ByteArray)[0]'h).toNat : Int) = 101 := fun _ => rfl
  have x69 : ∀ h, (((⟨#[69]⟩ : ByteArray)[0]'h).toNat : Int) = 69 := fun _ => rfl
  have hgq : ∀ q, g < (w.drewN q).heap.size := fun q => Nat.lt_of_lt_of_le hg (pw_below_drewN (Below.refl w.heap.size w) q).size
  have hlq : ∀ q, n < (w.drewN q).heap.size := fun q => Nat.lt_of_lt_of_le h.lt (pw_below_drewN (Below.refl w.heap.size w) q).size
  have g1 : ¬ g = w.heap.size := by omega
  have g2 : ¬ g = w.heap.size + 1 := by omega
  have g3 : ¬ g = n := fun e => hng e.symm
  have n1 : ¬ n = w.heap.size := by have := h.lt; omega
  have n2 : ¬ n = w.heap.size + 1 := by have := h.lt; omega
  have hlt := h.lt
  have HN := Aside0.mk h
  clear h
  go_enter Try.func59, Try.ntmps59
  go_wp2_with (go_at_call 59; fail)
  go_loopw [10] (fun v10 wr => v10 = .int .i64 0 ∧ wr = w) (fun v _ => 1)
  case atStart => exact ⟨rfl, rfl⟩
  case round =>
    obtain ⟨rfl, rfl⟩ := hrel
    go_wp2_with (go_at_call 59; fail)
    repeat (go_quiet (fail); try go_wp2_with (go_at_call 59; fail))
    have hb := HN.out
    refine gen_world (F := fun W => W.heap.size = wr.heap.size + 2 ∧ Node W n (⟨#[]⟩ : ByteArray) 0 (⟨#[101]⟩ : ByteArray) (.pointer (some ⟨m2, 0, none⟩)) (.slice (some ⟨wr.heap.size + 1, 0, none⟩) 4 4) ∧
      Node W wr.heap.size (⟨#[]⟩ : ByteArray) 0 (⟨#[]⟩ : ByteArray) (.pointer none) (.slice none 0 0) ∧ W.heap[wr.heap.size + 1]? = some (.cells #[.pointer none, .pointer none, .pointer none, .pointer none] 95 (0, 0)) ∧ Mod wr W (fun i => i = n)) ?_ ?_
    · refine ⟨?_, ?_, ?_, ?_, ?_⟩
      · simp [World.setCell]
      · unfold Node at hb ⊢
        simp [World.setCell, World.alloc, Array.getElem?_push, Array.getElem?_modify, hb, n1, n2]
      · exact (two_new _ _ _ _ (size_setCell _ _ _)).1
      · have := (two_new (wr.setCell ⟨n, 4, none⟩ (.slice (some ⟨wr.heap.size + 1, 0, none⟩) 4 4)) (.cells #[.string (⟨#[]⟩ : ByteArray), .int .i64 0, .string (⟨#[]⟩ : ByteArray), .pointer none, .slice none 0 0] 98) (.cells (madeCells #[.pointer none] 4) 95) _ (size_setCell _ _ _)).2
        rw [made4] at this
        rw [made4]
        exact this
      · exact Mod.drewN (Mod.alloc (Mod.alloc ((Mod.refl wr (fun i => i = n)).setCell ⟨n, 4, none⟩ _ (.inl rfl)) _) _) _
    rintro W ⟨hsz, hNn, hNk, hT, hM⟩
    have s5 := hM.cell hg hng.symm r5
    have se := hM.cell hg hng.symm re
    have sE := hM.cell hg hng.symm rE
    have t0 := hNn.c2
    have t1 := hNn.c4
    have t2 : W.cell? ⟨wr.heap.size + 1, 3, none⟩ = some (.pointer none) := by have := cell_of_row W (wr.heap.size + 1) 3 _ _ _ hT; simpa using this
    have t3 : W.frozen? ⟨wr.heap.size + 1, 3, none⟩ = false := by simp [World.frozen?, hT]
    have HNn := Aside0.mk hNn
    have HNk := Aside0.mk hNk
    have HT := Aside0.mk hT
    have HM := Aside0.mk hM
    have R5 := Aside0.mk r5
    have RE := Aside0.mk rE
    clear hNn hNk hT hM r5 re rE c1 c2 c3 c4 f2 f3 f4 hb
    refine still_tail 15 hmix (by kernel_rfl) ?_
    simp only [List.take_succ_cons, List.take_zero, List.drop_succ_cons, List.drop_zero]
    repeat still_step
    try refine wpStill_nil ?_
    go_wp2_with (go_at_call 59; fail)
    clear s5 se t0 t1 t2 t3
    refine gen_world (F := fun V => V.heap.size = wr.heap.size + 2 ∧ Node V n (⟨#[]⟩ : ByteArray) 0 (⟨#[101]⟩ : ByteArray) (.pointer (some ⟨m2, 0, none⟩)) (.slice (some ⟨wr.heap.size + 1, 0, none⟩) 4 4) ∧
      Node V wr.heap.size (⟨#[]⟩ : ByteArray) 0 (⟨#[]⟩ : ByteArray) (.pointer none) (.slice none 0 0) ∧ V.heap[wr.heap.size + 1]? = some (.cells #[.pointer none, .pointer none, .pointer none, .pointer (some ⟨m2, 0, none⟩)] 95 (0, 0)) ∧ Mod wr V (fun i => i = n)) ?_ ?_
    · have hw := ((Mod.refl W (fun i => i = wr.heap.size + 1)).setCell ⟨wr.heap.size + 1, 3, none⟩ (.pointer (some ⟨m2, 0, none⟩)) (.inl rfl)).drew
      refine ⟨?_, HNn.out.mod hw n2, HNk.out.mod hw (by omega), ?_, HM.out.trans hw (fun i hi e => by omega)⟩
      · rw [← hsz]; exact size_setCell _ _ _
      · have := HT.out
        show (W.setCell ⟨wr.heap.size + 1, 3, none⟩ (.pointer (some ⟨m2, 0, none⟩))).heap[wr.heap.size + 1]? = _
        simp [World.setCell, Array.getElem?_modify, this]
    rintro V ⟨vsz, hNn, hNk, hT, hM⟩
    have s5 := hM.cell hg hng.symm R5.out
    have sE := hM.cell hg hng.symm RE.out
    have t1 := hNn.c4
    have t2 : V.cell? ⟨wr.heap.size + 1, 2, none⟩ = some (.pointer none) := by have := cell_of_row V (wr.heap.size + 1) 2 _ _ _ hT; simpa using this
    have t3 : V.frozen? ⟨wr.heap.size + 1, 2, none⟩ = false := by simp [World.frozen?, hT]
    clear HNn HNk HT HM
    have HNn := Aside0.mk hNn
    have HNk := Aside0.mk hNk
    have HT := Aside0.mk hT
    have HM := Aside0.mk hM
    clear hNn hNk hT hM
    refine still_tail 12 hmix (by kernel_rfl) ?_
    simp only [List.take_succ_cons, List.take_zero, List.drop_succ_cons, List.drop_zero]
    repeat still_step
    try refine wpStill_nil ?_
    have q2 := HNn.out.c2
    have q3 := HNn.out.c3
    have z2 := HNn.out.fz 2
    have z3 := HNn.out.fz 3
    have hw : Mod V (((V.setCell ⟨wr.heap.size + 1, 2, none⟩ (.pointer (some ⟨wr.heap.size, 0, none⟩))).setCell ⟨n, 2, none⟩ (.string (⟨#[]⟩ : ByteArray))).setCell ⟨n, 3, none⟩ (.pointer none)).drew (fun i => i = wr.heap.size + 1 ∨ i = n) :=
      ((((Mod.refl V _).setCell ⟨wr.heap.size + 1, 2, none⟩ _ (.inl (.inl rfl))).setCell ⟨n, 2, none⟩ _ (.inl (.inr rfl))).setCell ⟨n, 3, none⟩ _ (.inl (.inr rfl))).drew
    have HW := Aside0.mk hw
    have HK := Aside0.mk (HNk.out.mod hw (by omega))
    clear hw
    go_wp2_with (go_at_call 59; refine (add_empty wr.heap.size val (⟨#[]⟩ : ByteArray) pr (.pointer none) (.slice none 0 0) _ _ HK.out).mono ?_; rintro e w1 ⟨rfl, hN1, hM1⟩)
    go_end0
    have hb := HNn.out
    have hT := HT.out
    have xn : Node (((V.setCell ⟨wr.heap.size + 1, 2, none⟩ (.pointer (some ⟨wr.heap.size, 0, none⟩))).setCell ⟨n, 2, none⟩ (.string (⟨#[]⟩ : ByteArray))).setCell ⟨n, 3, none⟩ (.pointer none)).drew n (⟨#[]⟩ : ByteArray) 0 (⟨#[]⟩ : ByteArray) (.pointer none) (.slice (some ⟨wr.heap.size + 1, 0, none⟩) 4 4) := by
      show Node (((V.setCell ⟨wr.heap.size + 1, 2, none⟩ (.pointer (some ⟨wr.heap.size, 0, none⟩))).setCell ⟨n, 2, none⟩ (.string (⟨#[]⟩ : ByteArray))).setCell ⟨n, 3, none⟩ (.pointer none)) n _ _ _ _ _
      unfold Node at hb ⊢
      simp [World.setCell, Array.getElem?_modify, hb, Ne.symm n2]
    have xT : (((V.setCell ⟨wr.heap.size + 1, 2, none⟩ (.pointer (some ⟨wr.heap.size, 0, none⟩))).setCell ⟨n, 2, none⟩ (.string (⟨#[]⟩ : ByteArray))).setCell ⟨n, 3, none⟩ (.pointer none)).drew.heap[wr.heap.size + 1]? = some (.cells #[.pointer none, .pointer none, .pointer (some ⟨wr.heap.size, 0, none⟩), .pointer (some ⟨m2, 0, none⟩)] 95 (0, 0)) := by
      show (((V.setCell ⟨wr.heap.size + 1, 2, none⟩ (.pointer (some ⟨wr.heap.size, 0, none⟩))).setCell ⟨n, 2, none⟩ (.string (⟨#[]⟩ : ByteArray))).setCell ⟨n, 3, none⟩ (.pointer none)).heap[wr.heap.size + 1]? = _
      simp [World.setCell, Array.getElem?_modify, hT, n2]
    have xs : wr.heap.size + 1 < (((V.setCell ⟨wr.heap.size + 1, 2, none⟩ (.pointer (some ⟨wr.heap.size, 0, none⟩))).setCell ⟨n, 2, none⟩ (.string (⟨#[]⟩ : ByteArray))).setCell ⟨n, 3, none⟩ (.pointer none)).drew.heap.size := (Array.getElem?_eq_some_iff.1 xT).1
    exact ⟨rfl, wr.heap.size, wr.heap.size + 1, Nat.le_refl _, by omega, xn.mod hM1 n1, hN1, (hM1.block _ xs (by omega)).trans xT, (HM.out.trans HW.out (fun i hi e => by omega)).trans hM1 (fun i hi e => by omega)⟩
end Go.Proofs.Ytedkaedeahobjaa
