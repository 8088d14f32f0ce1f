/- The contracts of (*run).can: whether a task's next step can be done; it only reads. By hand. -/
import Derived.Test.YtglafngeeggeeaaLocks
import Derived.RegionTactic
import Derived.ChangeAlike
import Derived.WalkKit
import Derived.Deep.QuietTactic
import Derived.BigQuiet
import Derived.Lib.Hide
import Derived.Maps.Own
import Derived.Maps.OwnOps
import Derived.Maps.OwnSet
import Derived.Outline
namespace Go.Proofs.Ytglafngeeggeeaa
open Go.RowKit Go.Proofs.YtglafngeeggeeaaW.PrintWords Go.Proofs.Ytglafngeeggeeaa.PSch
open Go.Maps (Keyed)
set_option linter.unusedVariables false
set_option linter.unusedSimpArgs false

set_option maxHeartbeats 400000 in
theorem can_end (gr ga N : Nat) (aT : Addr) (cT : Nat) (n p : Int) (AR : Option Addr) (len cR : Nat) (w : World)
    (h0 : 0 ≤ n) (h1 : n < (N : Int)) (hN : N ≤ 1000000)
    (hr0 : w.cell? ⟨gr, 0, none⟩ = some (.slice (some aT) N cT)) (hr1 : w.cell? ⟨gr, 1, none⟩ = some (.slice (some ⟨ga, 0, none⟩) N N))
    (hat : w.cell? ⟨ga, n.toNat, none⟩ = some (.int .i64 p)) (hrow : w.cell? (aT.add n.toNat) = some (.slice AR len cR)) (hp : (p == (len : Int)) = true) :
    Calls Try.prog 23 #[.pointer (some ⟨gr, 0, none⟩), .int .i64 n] w fun e w' => e = .returned (.bool false) ∧ ∃ m, w' = w.drewN m := by
  replace h0 := eq_true h0
  replace h1 := eq_true h1
  go_enter Try.func23, Try.ntmps23
  go_wp2
  go_quiet (fail)
  go_wp2
  go_ret
  exact ⟨rfl, _, rfl⟩
set_option maxHeartbeats 400000 in
theorem can_look (gr ga bm N : Nat) (aT aR : Addr) (cT : Nat) (n p s c : Int) (ok : Bool) (len cR : Nat) (w : World)
    (h0 : 0 ≤ n) (h1 : n < (N : Int)) (hN : N ≤ 1000000)
    (hr0 : w.cell? ⟨gr, 0, none⟩ = some (.slice (some aT) N cT)) (hr1 : w.cell? ⟨gr, 1, none⟩ = some (.slice (some ⟨ga, 0, none⟩) N N)) (hr2 : w.cell? ⟨gr, 2, none⟩ = some (.map (some bm)))
    (hat : w.cell? ⟨ga, n.toNat, none⟩ = some (.int .i64 p)) (hrow : w.cell? (aT.add n.toNat) = some (.slice (some aR) len cR)) (hp : (p == (len : Int)) = false)
    (hp0 : 0 ≤ p) (hp1 : p < (len : Int)) (hlen : len ≤ 1000000) (hstep : w.cell? (aR.add p.toNat) = some (.int .i64 s))
    (hlook : ∀ m, (Instr.lookup 43 (.map (some bm)) (.int .i64 s) true).run Try.prog (w.drewN m) = .ok (.tuple #[.int .i64 c, .bool ok]) (w.drewN m)) :
    Calls Try.prog 23 #[.pointer (some ⟨gr, 0, none⟩), .int .i64 n] w fun e w' => e = .returned (.bool (!ok)) ∧ ∃ m, w' = w.drewN m := by
  replace h0 := eq_true h0
  replace h1 := eq_true h1
  replace hp0 := eq_true hp0
  replace hp1 := eq_true hp1
  go_enter Try.func23, Try.ntmps23
  go_wp2
  go_quiet (fail)
  go_wp2
  go_quiet (fail)
  go_wp2
  go_ret
  exact ⟨rfl, _, rfl⟩

/-! ### the plain words -/
abbrev KT : Kd (List Int) := Kd.slice 3 (Kd.int .i64)
/-- A task's next step. -/
def stepOf (ts : List (List Int)) (xs : List Int) (n : Int) : Int := rd (rd_L1 ts n) (rd xs n)
/-- Is its next step there? -/
def more (ts : List (List Int)) (xs : List Int) (n : Int) : Prop := 0 ≤ rd xs n ∧ rd xs n < ((rd_L1 ts n).length : Int)
/-- Can a task run? -/
def canB (ts : List (List Int)) (xs : List Int) (L : Int → Option Int) (n : Int) : Bool :=
  !(rd xs n == ((rd_L1 ts n).length : Int)) && !(L (stepOf ts xs n)).isSome
/-- The tasks are few, their steps numbers of 64 bits. -/
def FewT (ts : List (List Int)) : Prop := ts.length ≤ 1000 ∧ ∀ t ∈ ts, t.length ≤ 1000 ∧ ∀ x ∈ t, wf64 x
theorem rd_L1_mem (ts : List (List Int)) (n : Int) (h0 : 0 ≤ n) (h1 : n < (ts.length : Int)) : rd_L1 ts n ∈ ts := by
  have hi : n.toNat < ts.length := by omega
  unfold rd_L1
  simp [List.getD_eq_getElem?_getD, List.getElem?_eq_getElem hi]
theorem rd_mem' (l : List Int) (i : Int) (h0 : 0 ≤ i) (h : i < (l.length : Int)) : rd l i ∈ l := by
  have hi : i.toNat < l.length := by omega
  unfold rd
  simp [List.getD_eq_getElem?_getD, List.getElem?_eq_getElem hi]
theorem step_wf (ts : List (List Int)) (hF : FewT ts) (xs : List Int) (n : Int) (h0 : 0 ≤ n) (h1 : n < (ts.length : Int)) (hm : more ts xs n) : wf64 (stepOf ts xs n) :=
  (hF.2 _ (rd_L1_mem ts n h0 h1)).2 _ (rd_mem' _ _ hm.1 hm.2)
/-- The step's cell. -/
theorem step_cell {w : World} {A0 : Option Addr} {N : Nat} {ts : List (List Int)} (hC : KT.C w A0 N ts) (n : Int) (h0 : 0 ≤ n) (h1 : n < (N : Int)) :
    ∃ aT AR cR, A0 = some aT ∧ w.cell? (aT.add n.toNat) = some (.slice AR (rd_L1 ts n).length cR) ∧ ∀ i : Int, 0 ≤ i → i < ((rd_L1 ts n).length : Int) → ∃ aR, AR = some aR ∧ w.cell? (aR.add i.toNat) = some (.int .i64 (rd (rd_L1 ts n) i)) := by
  obtain ⟨aT, AR, cR, e, hc, hl, hr⟩ := at_L1 hC n h0 h1
  refine ⟨aT, AR, cR, e, hc, fun i i0 i1 => ?_⟩
  obtain ⟨aR, cs, e', _, hK, hcs⟩ := Kd.C_get hr (0 : Int) i i0 i1
  obtain rfl : cs = [.int .i64 (rd (rd_L1 ts n) i)] := hK
  exact ⟨aR, e', by have := hcs 0 _ rfl; simpa [Kd.int, Kd.scalar] using this⟩

theorem can_any {B : Nat} {w0 w : World} {gr ga bm : Nat} {A0 : Option Addr} {N c0 : Nat} {xs : List Int} {L : Int → Option Int} {q : Nat} {ts : List (List Int)}
    (hR : Run B w0 w gr ga bm A0 N c0 xs L q) (hC : KT.C w A0 N ts) (hF : FewT ts) (hN : ts.length = N) (n : Int) (h0 : 0 ≤ n) (h1 : n < (N : Int)) (hx : 0 ≤ rd xs n ∧ rd xs n ≤ ((rd_L1 ts n).length : Int)) :
    Calls Try.prog 23 #[.pointer (some ⟨gr, 0, none⟩), .int .i64 n] w fun e w' => e = .returned (.bool (canB ts xs L n)) ∧ ∃ m, w' = w.drewN m := by
  obtain ⟨aT, AR, cR, rfl, hrow, hst⟩ := step_cell hC n h0 h1
  have hlen := (hF.2 _ (rd_L1_mem ts n h0 (by omega))).1
  have hN2 := hF.1
  unfold canB
  by_cases hp : (rd xs n == ((rd_L1 ts n).length : Int)) = true
  · rw [hp]
    exact can_end gr ga N aT c0 n _ AR _ cR w h0 h1 (by omega) hR.cell0 hR.cell1 (hR.at_ n h0 h1) hrow hp
  · have hp' : (rd xs n == ((rd_L1 ts n).length : Int)) = false := by simpa using hp
    have hlt : rd xs n < ((rd_L1 ts n).length : Int) := by
      have : rd xs n ≠ ((rd_L1 ts n).length : Int) := by simpa using hp
      omega
    obtain ⟨aR, rfl, hc⟩ := hst _ hx.1 hlt
    obtain ⟨c, hlook, _⟩ := hR.lk.look (stepOf ts xs n) (step_wf ts hF xs n h0 (by omega) ⟨hx.1, hlt⟩)
    rw [hp']
    exact can_look gr ga bm N aT aR c0 n _ (stepOf ts xs n) c _ _ cR w h0 h1 (by omega) hR.cell0 hR.cell1 hR.cell2 (hR.at_ n h0 h1) hrow hp' hx.1 hlt (by omega) hc hlook
end Go.Proofs.Ytglafngeeggeeaa
