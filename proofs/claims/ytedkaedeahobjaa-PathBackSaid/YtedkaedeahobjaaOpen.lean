/- Slices of texts, and bytes, as parameters: opened to lists. -/
import Derived.Test.YtedkaedeahobjaaEv
import Derived.SliceStrings
import Derived.OpenShut
import Derived.ProofKit
import Derived.WalkKit
import Derived.ShutString
import Derived.ChangeOld
import Derived.Below
import Derived.SizedLaws
import Derived.RowKit
namespace Go.Proofs.Ytedkaedeahobjaa
open Go.ChangeShapes Go.WideShapes Go.ChangeAt Go.RowKit Go.Proofs.YtedkaedeahobjaaW.PrintWords
set_option linter.unusedVariables false
set_option linter.unusedSimpArgs false
section
variable {H : Type} {enc : TypeId × Value → H} {P : Program} {w : World} {held : Bool}
theorem open_row {t e : TypeId} {a : Option Addr} {len cap : Nat} {x : DataW H × List MemPlace} (ht : P.underlying t = some (.slice e)) (he : P.underlying e = some .string) (ce : P.cellsOf e = 1)
    (h : ∃ fuel, DataW.trod enc P w 0 (fun _ => true) held fuel t (Value.slice a len cap).cells.toList = some x) : ∃ l : List ByteArray, len = l.length ∧ l.length ≤ cap ∧ Kd.C Kd.string w a l.length l := by
  obtain ⟨fuel, hf⟩ := h
  rcases Go.ChangeShapes.open_strings ht he ce hf with ⟨hcs, _⟩ | ⟨x, l, c, ss, hcs, _, hl, hm, hz, _, hcell, _⟩
  · simp [Value.cells] at hcs
    obtain ⟨rfl, rfl, rfl⟩ := hcs
    exact ⟨[], rfl, Nat.le_refl _, ⟨rfl, by decide, fun h => absurd h (by decide)⟩⟩
  · simp [Value.cells] at hcs
    obtain ⟨rfl, rfl, rfl⟩ := hcs
    have hz' : ss.length = cap := by simpa using hz
    have hlen : (ss.take len).length = len := by rw [List.length_take]; omega
    refine ⟨ss.take len, hlen.symm, by rw [hlen]; exact hl, ?_⟩
    refine Kd.C_of_reads (d := ByteArray.empty) (h1 := fun _ => rfl) ⟨rfl, by rw [hlen]; exact Nat.le_trans hl hm, fun _ => ⟨x, rfl, fun i hi => ?_⟩⟩
    rw [hlen] at hi
    rw [hcell i (by omega)]
    simp [List.getD_eq_getElem?_getD, List.getElem?_take, hi]
end
theorem byte_range {x : Int} (h : (Lit.int .u8 x).wf = true) : 0 ≤ x ∧ x ≤ 255 := by
  simp only [Lit.wf, IntKind.min, IntKind.max, IntKind.signed, IntKind.bits, Bool.and_eq_true, decide_eq_true_eq] at h
  simpa using h
end Go.Proofs.Ytedkaedeahobjaa
