/- The buffer that (*strings.genericReplacer).Replace writes into. -/
import Derived.Test.YtedkaedeahobjaaLook
import Derived.Lib.Builder
import Derived.Lib.AppendStr
import Derived.Stop.Asserts
namespace Go.Proofs.Ytedkaedeahobjaa
open Go.RowKit Go.Proofs.YtedkaedeahobjaaW.PrintWords
set_option linter.unusedVariables false
set_option linter.unusedSimpArgs false

/-- A row of bytes held in a variable of block f. -/
def Buf (w : World) (B f : Nat) (bs : List Value) : Prop := B ≤ f ∧ ∃ v, w.heap[f]? = some (.cells #[v] 136 (0, 0)) ∧ w.ownsRow B 5 1 v bs.length bs ∧ v.ownBlock ≠ some f
theorem info_byte : (Try.prog.info? 5).map (fun i => (i.zero, i.size, i.bytes)) = some (some (.int .u8 0), 1, 1) := by kernel_rfl
theorem Buf.put {B f : Nat} {v v' : Value} {bs' : List Value} {w : World} (hB : B ≤ f) (hb : w.heap[f]? = some (.cells #[v] 136 (0, 0))) (hown : w.ownsRow B 5 1 v' bs'.length bs') : Buf (w.setCell ⟨f, 0, none⟩ v') B f bs' := by
  have hne : v'.ownBlock ≠ some f := Lib.ownBlock_ne hown hb (by decide)
  refine ⟨hB, v', ?_, ?_, hne⟩
  · simp [World.setCell, Array.getElem?_modify, hb]
  · exact hown.kept (row := some f) ⟨rfl, rfl, rfl, by simp [World.setCell], fun k _ hk => Below.heap_setCell _ _ _ _ (fun e => hk (by simp [e]))⟩ (Or.inr hne)
theorem Buf.below {B f : Nat} {bs : List Value} {w w' : World} (h : Buf w B f bs) (hb : Below w.heap.size w w') : Buf w' B f bs := by
  obtain ⟨hB, v, hf, hown, hne⟩ := h
  refine ⟨hB, v, (hb.block f (Array.getElem?_eq_some_iff.1 hf).1).trans hf, ?_, hne⟩
  exact hown.kept (row := none) ⟨hb.os, hb.tape, hb.output, hb.size, fun k hk _ => hb.block k hk⟩ (by cases hv : v.ownBlock with | none => exact .inl rfl | some x => exact .inr (by simp))

set_option maxHeartbeats 2000000 in
set_option maxRecDepth 100000 in
theorem buf_write (B f : Nat) (bs : List Value) (s : ByteArray) (w : World) (h : Buf w B f bs) (hlen : bs.length + s.size ≤ 140737488355328) (hBw : B ≤ w.heap.size) :
    Calls Try.prog 119 #[.pointer (some ⟨f, 0, none⟩), .string s] w fun e w' => e = .returned (.tuple #[.int .i64 s.size, .nilIface]) ∧ Buf w' B f (bs ++ Lib.strCells s) ∧ Below B w w' := by
  obtain ⟨i0, hi, hz0, hz1, hz2⟩ := info_parts info_byte
  obtain ⟨hB, v, hbk, hown, hne⟩ := h
  have c0 : w.cell? ⟨f, 0, none⟩ = some v := by rw [Lib.cell_of_heap hbk]; rfl
  go_enter Try.func119, Try.ntmps119
  go_wp2_with (at_builtin; refine Lib.wpList_append_own_string _ rfl _ _ 136 9 rfl B 5 i0 Try.underlying136 Try.underlying9 hi hz0 hz1 hz2 _ _ _ rfl hown s rfl ?c3 ?c4 ?c5 ?_)
  case c3 => unfold maxLen; omega
  case c4 => omega
  case c5 => exact hBw
  intro v' w2 hown' hgrow _
  have hlt : f < w.heap.size := (Array.getElem?_eq_some_iff.1 hbk).1
  have hb2 : w2.heap[f]? = some (.cells #[v] 136 (0, 0)) := by
    rw [hgrow.block f hlt (fun e => hne e.symm)]
    exact hbk
  have d0 : w2.cell? ⟨f, 0, none⟩ = some v := by rw [Lib.cell_of_heap hb2]; rfl
  have f1 : w2.frozen? ⟨f, 0, none⟩ = false := Lib.frozen_of_heap hb2 0
  obtain ⟨ao, n', cap, rfl⟩ : ∃ ao n' cap, v' = .slice ao n' cap := by
    rcases hown'.2 with ⟨hv, _⟩ | ⟨g, cap, cur, hv, _⟩
    · exact ⟨_, _, _, hv⟩
    · exact ⟨_, _, _, hv⟩
  go_wp2
  go_ret2
  refine ⟨rfl, ?_, ?_⟩
  · exact Buf.put hB hb2 (bs' := bs ++ Lib.strCells s) (by simpa [Lib.strCells_length] using hown')
  · exact ((Below.refl B w).grown hgrow hBw (fun k hk => (hown.lt k hk).1)).setCell (p := ⟨f, 0, none⟩) hB _

set_option maxHeartbeats 2000000 in
set_option maxRecDepth 100000 in
theorem get_writer (a : Option Addr) (w : World) : Calls Try.prog 102 #[.iface 137 (.pointer a)] w fun e w' => e = .returned (.iface 137 (.pointer a)) ∧ w' = w := by
  have hA : ∀ (v : Value) (xT : TypeId) (w : World), (Instr.typeAssert (.iface 137 v) xT 141 true).run Try.prog w = .ok (.tuple #[.iface 137 v, .bool true]) w := fun v xT w => run_typeAssert_hasB (P := Try.prog) Try.underlying141 (by kernel_rfl) v xT w
  go_enter Try.func102, Try.ntmps102
  go_wp2
  go_ret
  exact ⟨rfl, rfl⟩
end Go.Proofs.Ytedkaedeahobjaa
