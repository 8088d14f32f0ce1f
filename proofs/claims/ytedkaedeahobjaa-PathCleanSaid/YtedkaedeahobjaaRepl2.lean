/- (*strings.genericReplacer).Replace, (*strings.Replacer).Replace, strings.NewReplacer, path.plain. -/
import Derived.Test.YtedkaedeahobjaaRepl1
import Derived.Lib.SlBytesRow
import Derived.Lib.BufferRead
import Derived.Laws.MakeOwn
namespace Go.Proofs.Ytedkaedeahobjaa
open Go.RowKit Go.Proofs.YtedkaedeahobjaaW.PrintWords
set_option linter.unusedVariables false
set_option linter.unusedSimpArgs false

theorem make_buf (n : Nat) (hn : n ≤ 1000000000) (W : World) : (Instr.makeSlice 136 (.int .i64 0) (.int .i64 (n : Int))).run Try.prog W = .ok (.slice (some ⟨W.heap.size, 0, none⟩) 0 n) (W.alloc (.cells (madeCells #[.int .u8 0] n) 5)) := by
  obtain ⟨i0, hi, hz0, hz1, hz2⟩ := info_parts info_byte
  have h := run_make (P := Try.prog) W 136 5 i0 _ Try.underlying136 hi hz0 .i64 .i64 0 (n : Int) (by omega) (by omega) (by rw [hz2]; omega) (by omega)
  rw [hz1] at h
  simpa [Value.cells] using h
theorem buf_string {w : World} {B f : Nat} {l : List UInt8} (h : Buf w B f (Lib.byteCells l)) : ∃ v, w.cell? ⟨f, 0, none⟩ = some v ∧ (convert 136 9 v).run Try.prog w = .ok (.string ⟨l.toArray⟩) w := by
  obtain ⟨hB, v, hf, hown, hne⟩ := h
  refine ⟨v, by rw [Lib.cell_of_heap hf]; rfl, ?_⟩
  rw [Lib.byteCells_length] at hown
  rcases hown.2 with ⟨rfl, h0⟩ | ⟨g', cap, cur, rfl, hg, hrow, hn, _, hsz, htk⟩
  · obtain rfl : l = [] := List.length_eq_zero_iff.1 h0
    exact Lib.run_convert_nil_bytes w 136 9 5 0 Try.underlying136 Try.underlying5 Try.underlying9
  · exact run_convert_bytes_back w 136 9 5 ⟨g', 0, none⟩ cap l Try.underlying136 Try.underlying5 Try.underlying9 (Lib.bytes_of_row hrow (by simpa using htk))
theorem buf_new (w : World) (n : Nat) (hn : n ≤ 1000000000) : Buf ((w.alloc (.cells (madeCells #[.int .u8 0] n) 5)).alloc (.cells #[.slice (some ⟨w.heap.size, 0, none⟩) 0 n] 136)) w.heap.size (w.heap.size + 1) [] := by
  refine ⟨by omega, .slice (some ⟨w.heap.size, 0, none⟩) 0 n, one_new _ _ _ (by simp), ?_, by simp [Value.ownBlock]⟩
  have h := World.ownsRow_made (base := w.heap.size) (e := 5) (size := 1) w (madeCells #[.int .u8 0] n) n (Nat.le_refl _) (by unfold maxLen; omega) (by rw [size_madeCells]; simp)
  exact h.alloc _
set_option maxHeartbeats 4000000 in
set_option maxRecDepth 100000 in
theorem genrep_walk (C g : Nat) (s : ByteArray) (w : World) (hG : GR w C g) (hs : s.size ≤ 1000000000) :
    Calls Try.prog 100 #[.pointer (some ⟨g, 0, none⟩), .string s] w fun e w' => e = .returned (.string ⟨(rep s.data.toList).toArray⟩) ∧ Below w.heap.size w w' := by
  have HG := Aside0.mk hG
  have HS := Aside0.mk hs
  have hmk := make_buf s.size hs
  clear hG hs
  go_enter Try.func100, Try.ntmps100
  have HF := Aside0.mk (buf_new w s.size HS.out)
  have HBW : Aside0 (Below w.heap.size w ((w.alloc (.cells (madeCells #[.int .u8 0] s.size) 5)).alloc (.cells #[.slice (some ⟨w.heap.size, 0, none⟩) 0 s.size] 136))) := Aside0.mk (((Below.refl _ w).alloc (Nat.le_refl _) _).alloc (by simp) _)
  go_wp2_with (go_at_call 101; refine (ws_walk w.heap.size C g (w.heap.size + 1) s w _ HG.out rfl HBW.out HF.out HS.out).mono ?_; rintro e w1 ⟨⟨v1, rfl⟩, hF1, hB1⟩; obtain ⟨v, hc, hcv⟩ := buf_string hF1; have HB1 := Aside0.mk hB1; clear hF1 hB1)
  go_ret
  exact ⟨rfl, HB1.out⟩
end Go.Proofs.Ytedkaedeahobjaa
