/- Slices of slices of whole numbers, and slices of whole numbers, as parameters: opened to lists. -/
import Derived.Test.YtglafngeeggeeaaPSchx0
import Derived.Deep.Matrix
import Derived.OpenShut
import Derived.ProofKit
import Derived.WalkKit
import Derived.ShutString
import Derived.ChangeOld
import Derived.Below
import Derived.SizedLaws
import Derived.RowKit
namespace Go.Proofs.Ytglafngeeggeeaa
open Go.ChangeShapes Go.WideShapes Go.ChangeAt Go.RowKit Go.Proofs.YtglafngeeggeeaaW.PrintWords Go.Proofs.Ytglafngeeggeeaa.PSch
set_option linter.unusedVariables false
set_option linter.unusedSimpArgs false
section
variable {H : Type} {enc : TypeId × Value → H} {P : Program} {w : World} {held : Bool}
theorem take_getD (l : List Int) (n i : Nat) (h : i < n) : (l.take n).getD i 0 = l.getD i 0 := by
  simp [List.getD_eq_getElem?_getD, List.getElem?_take, h]
theorem open_row {t e : TypeId} {k : IntKind} {a : Option Addr} {len cap : Nat} {x : DataW H × List MemPlace} (ht : P.underlying t = some (.slice e)) (he : P.underlying e = some (.int k)) (ce : P.cellsOf e = 1)
    (h : ∃ fuel, DataW.trod enc P w 0 (fun _ => true) held fuel t (Value.slice a len cap).cells.toList = some x) : ∃ l : List Int, len = l.length ∧ l.length ≤ cap ∧ (Kd.int k).C w a l.length l ∧ ∀ n ∈ l, (Lit.int k n).wf = true := by
  obtain ⟨fuel, hf⟩ := h
  have hz : ∃ zs : List Int, (a = none ∧ len = 0 ∧ cap = 0 ∧ zs = []) ∨ ∃ x, a = some x ∧ len ≤ cap ∧ cap ≤ maxLen ∧ zs.length = cap ∧ (∀ i, i < zs.length → w.cell? (x.add i) = some (.int k (zs.getD i 0))) ∧ ∀ n ∈ zs, (Lit.int k n).wf = true := by
    rcases open_ints ht he ce hf with ⟨hcs, _⟩ | ⟨x, l, c, zs, hcs, _, hl, hm, hz, _, hcell, hwz⟩
    · simp [Value.cells] at hcs
      obtain ⟨rfl, rfl, rfl⟩ := hcs
      exact ⟨[], .inl ⟨rfl, rfl, rfl, rfl⟩⟩
    · simp [Value.cells] at hcs
      obtain ⟨rfl, rfl, rfl⟩ := hcs
      exact ⟨zs, .inr ⟨_, rfl, hl, hm, by simpa using hz, hcell, hwz⟩⟩
  obtain ⟨zs, hzs⟩ := hz
  obtain ⟨l, rfl, hr, hm, hw, hc⟩ := ReadsInt.ofRowC hzs
  exact ⟨l, rfl, hc, Kd.C_of_reads (d := (0 : Int)) (h1 := fun _ => rfl) hr, hw⟩
theorem open_rows {t e q : TypeId} {k : IntKind} {a : Option Addr} {len cap : Nat} {x : DataW H × List MemPlace} (ht : P.underlying t = some (.slice e)) (he : P.underlying e = some (.slice q)) (hq : P.underlying q = some (.int k))
    (ce : P.cellsOf e = 1) (cq : P.cellsOf q = 1) (h : ∃ fuel, DataW.trod enc P w 0 (fun _ => true) held fuel t (Value.slice a len cap).cells.toList = some x) :
    ∃ ts : List (List Int), len = ts.length ∧ ts.length ≤ cap ∧ (Kd.slice q (Kd.int k)).C w a ts.length ts ∧ ∀ l ∈ ts, ∀ n ∈ l, (Lit.int k n).wf = true := by
  obtain ⟨fuel, hf⟩ := h
  rcases Deep.open_int_rows ht he hq ce cq hf with ⟨hcs, _⟩ | ⟨ad, len', cap', A, L, C, Z, hcs, _, hl, hm, _, hrow⟩
  · simp [Value.cells] at hcs
    obtain ⟨rfl, rfl, rfl⟩ := hcs
    exact ⟨[], rfl, Nat.le_refl _, ⟨rfl, by decide, fun h => absurd h (by decide)⟩, fun l hl => by cases hl⟩
  · simp [Value.cells] at hcs
    obtain ⟨rfl, rfl, rfl⟩ := hcs
    have hlen : ((List.range len).map fun r => (Z r).take (L r)).length = len := by simp
    refine ⟨(List.range len).map fun r => (Z r).take (L r), hlen.symm, by rw [hlen]; exact hl, ?_, fun l hl' n hn => ?_⟩
    · refine ⟨rfl, by rw [hlen]; exact Nat.le_trans hl hm, fun _ => ⟨ad, rfl, fun j p hj => ?_⟩⟩
      obtain ⟨hj1, rfl⟩ := List.getElem?_eq_some_iff.1 hj
      rw [hlen] at hj1
      obtain ⟨c1, c2, c3, c4, c5, c6, c7⟩ := hrow j (Nat.lt_of_lt_of_le hj1 hl)
      have hZ : ((Z j).take (L j)).length = L j := by rw [List.length_take]; omega
      refine ⟨[.slice (A j) (L j) (C j)], rfl, ⟨A j, C j, ?_, ?_, ?_⟩, ?_⟩
      · simp [hZ]
      · simp [hZ]; exact c2
      · simp only [List.getElem_map, List.getElem_range]
        refine ⟨rfl, by rw [hZ]; exact Nat.le_trans c2 c3, fun h0 => ?_⟩
        rw [hZ] at h0
        rcases hA : A j with _ | a'
        · have := c6 hA; omega
        · refine ⟨a', rfl, fun i p hi => ?_⟩
          obtain ⟨hi1, rfl⟩ := List.getElem?_eq_some_iff.1 hi
          rw [hZ] at hi1
          have hcell := (c7 a' hA).2 i (Nat.lt_of_lt_of_le hi1 c2)
          refine ⟨[.int k (((Z j).take (L j))[i])], rfl, rfl, fun u v hu => ?_⟩
          have hu0 : u = 0 := by
            have := (List.getElem?_eq_some_iff.1 hu).1
            simp at this
            exact this
          subst hu0
          simp at hu
          subst hu
          rw [show (Kd.int k).sz = 1 from rfl, Nat.mul_one, Nat.add_zero, hcell]
          simp [List.getD_eq_getElem?_getD, List.getElem?_eq_getElem (show i < (Z j).length by omega)]
      · intro u v hu
        have hu0 : u = 0 := by
          have := (List.getElem?_eq_some_iff.1 hu).1
          simp at this
          exact this
        subst hu0
        simp at hu
        subst hu
        rw [show (Kd.slice q (Kd.int k)).sz = 1 from rfl, Nat.mul_one, Nat.add_zero]
        exact c1
    · obtain ⟨r, hr, rfl⟩ := List.mem_map.1 hl'
      exact (hrow r (Nat.lt_of_lt_of_le (List.mem_range.1 hr) hl)).2.2.2.2.1 n (List.mem_of_mem_take hn)
end
theorem byte_range {x : Int} (h : (Lit.int .u8 x).wf = true) : 0 ≤ x ∧ x ≤ 255 := by
  simp only [Lit.wf, IntKind.min, IntKind.max, IntKind.signed, IntKind.bits, Bool.and_eq_true, decide_eq_true_eq] at h
  simpa using h
end Go.Proofs.Ytglafngeeggeeaa
