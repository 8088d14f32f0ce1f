/- The contract of the iterator that (*run).from makes: the tasks from one on, round. By hand. -/
import Derived.Test.YtglafngeeggeeaaDo
import Derived.Test.YtglafngeeggeeaaTail
import Derived.RangeFuncNested
import Derived.RangeFuncBound
import Derived.RangeFuncCalls
import Derived.RangeFuncLeaves
import Derived.RangeFuncBox
import Derived.Shelf.Abstract
import Derived.Shelf.RegionOpen
import Derived.OwnWalkIn
import Derived.TacticsInMore
import Derived.LoopNIn
import Derived.LoopIn
namespace Go.Proofs.Ytglafngeeggeeaa
open Go.RowKit Go.Shelf Go.Proofs.YtglafngeeggeeaaW.PrintWords Go.Proofs.Ytglafngeeggeeaa.PSch
attribute [local go_sem] Oper.semAt_some
set_option linter.unusedVariables false
set_option linter.unusedSimpArgs false

/-- A task's number. -/
def TaskN (N : Nat) : Type := { x : Int // 0 ≤ x ∧ x < (N : Int) }
/-- The first k of what f gives. -/
def upto {α : Type} (f : Nat → α) (k : Nat) : List α := (List.range k).map f
theorem upto_succ {α : Type} (f : Nat → α) (k : Nat) : upto f (k + 1) = upto f k ++ [f k] := by simp [upto, List.range_succ]
theorem upto_length {α : Type} (f : Nat → α) (k : Nat) : (upto f k).length = k := by simp [upto]

set_option maxRecDepth 100000 in
set_option maxHeartbeats 2000000 in
theorem from1_in (n : Nat) (hn : 1 ≤ n) (l Br Bn gr n₀ N c0 : Nat) (A0 : Option Addr) (s : Int) (hN : N ≤ 1000000) (hs0 : 0 ≤ s) (hs1 : s < (N : Int)) {α : Type} (enc : α → Int) (f : Nat → α) (hf : ∀ k, k < N → enc (f k) = (s + (k : Int)) % (N : Int)) (hBr : Br < n₀) (hBn : Bn < n₀) (hgr : gr < n₀) (J Jx : List α → World → Prop)
    (hY : ∀ pre x W, J pre W → pre.length < N → YieldAt Fence.wide (n - 1) Try.prog l #[.int .i64 (enc x)] W fun e W' =>
      (e = .returned (.bool true) ∧ J (pre ++ [x]) W' ∧ Below n₀ W W') ∨ (e = .returned (.bool false) ∧ Jx (pre ++ [x]) W'))
    (hJd : ∀ pre W, J pre W → J pre W.drew)
    (W : World) (hcr : W.cell? ⟨Br, 0, none⟩ = some (.pointer (some ⟨gr, 0, none⟩))) (hcn : W.cell? ⟨Bn, 0, none⟩ = some (.int .i64 s)) (hct : W.cell? ⟨gr, 0, none⟩ = some (.slice A0 N c0)) (h0 : J [] W) :
    CallsIn Fence.wide n Try.prog 25 #[.func (.yield l) #[] #[], .pointer (some ⟨Br, 0, none⟩), .pointer (some ⟨Bn, 0, none⟩)] W fun e W' => (∃ v, e = .returned v) ∧
      ((∃ ys, ys = upto f N ∧ J ys W') ∨ (∃ pre, (∃ k, k ≤ N ∧ pre = upto f k) ∧ Jx pre W')) := by
  refine callsIn_of_wp Try.func25 rfl trivial ?_ rfl
  simp only [Try.ntmps25, List.size_toArray, List.length_cons, List.length_nil, Nat.reduceAdd, Nat.reduceSub, Array.replicate_succ, Array.replicate_zero, List.push_toArray, List.append_toArray, List.nil_append, List.cons_append]
  gi_wp2
  gi_loopw [10] (fun i wr => ∃ k : Nat, k ≤ N ∧ i = .int .i64 k ∧ J (upto f k) wr ∧ Below n₀ W wr)
    (fun i _ => N - (intOf i).toNat)
  case atStart => exact ⟨0, Nat.zero_le _, rfl, h0, Below.refl _ _⟩
  case round =>
    obtain ⟨k, hk, rfl, hJs, hnx⟩ := hrel
    have hcr' := (hnx.cell (p := ⟨Br, 0, none⟩) hBr).trans hcr
    have hcn' := (hnx.cell (p := ⟨Bn, 0, none⟩) hBn).trans hcn
    have hct' := (hnx.cell (p := ⟨gr, 0, none⟩) hgr).trans hct
    by_cases hlt : k < N
    · have hmx : Try.prog.follows .mixedOrders = true := by kernel_rfl
      obtain ⟨fn, tmps, assign, body, hy, hR⟩ := hY _ (f k) wr.drew (hJd _ _ hJs) (by rw [upto_length]; exact hlt)
      rw [hf k hlt] at hy
      have hR2 := hR.mono (R' := fun e W' => ∃ b, e = .returned (.bool b) ∧ Hid ((b = true ∧ J (upto f (k + 1)) W' ∧ Below n₀ wr W') ∨ (b = false ∧ Jx (upto f (k + 1)) W'))) (by
        rintro e W' (⟨rfl, h1, h2⟩ | ⟨rfl, h1⟩)
        · exact ⟨true, rfl, Lib.hid (.inl ⟨rfl, by rw [upto_succ]; exact h1, (Below.refl _ _).drew.trans h2⟩)⟩
        · exact ⟨false, rfl, Lib.hid (.inr ⟨rfl, by rw [upto_succ]; exact h1⟩)⟩)
      have hN0 : (N : Int) ≠ 0 := by omega
      have e1 : IntKind.i64.wrap (s + (k : Int)) = s + (k : Int) := IntWalk.i64_in _ (by omega)
      have e2 : Int.tmod (s + (k : Int)) (N : Int) = (s + (k : Int)) % (N : Int) := Int.tmod_eq_emod_of_nonneg (by omega)
      have e4 : (s + (k : Int)) % (N : Int) < (N : Int) := Int.emod_lt_of_pos _ (by omega)
      have e5 : 0 ≤ (s + (k : Int)) % (N : Int) := Int.emod_nonneg _ hN0
      have e3 : IntKind.i64.wrap ((s + (k : Int)) % (N : Int)) = (s + (k : Int)) % (N : Int) := IntWalk.i64_in _ (by omega)
      have e6 : ((N : Int) == 0) = false := by simpa using hN0
      have hN1 : ¬ (N = 0) := by omega
      have HR := Lib.hid hR2
      clear hR hR2
      gi_wp2
      refine wide_still_tail 10 (by kernel_rfl) (by kernel_rfl) ?_
      simp only [List.take_succ_cons, List.take_zero, List.drop_succ_cons, List.drop_zero]
      repeat still_step
      refine wpStill_nil ?_
      clear e1 e2 e3 e4 e5 e6 hN0 hN1 hmx hY
      gi_wp2
      refine HR.out.mono ?_
      rintro e W3 ⟨b, rfl, hb⟩
      rcases hb.out with ⟨rfl, h1, h2⟩ | ⟨rfl, h1⟩
      · gi_wp2
        go_roundw
        case rel => exact ⟨k + 1, by omega, by simp, h1, hnx.trans h2⟩
        case measure => simp [intOf]; omega
      · gi_wp2
        refine bodyPost_ret (results_none rfl _ _ _) rfl ?_
        exact ⟨⟨_, rfl⟩, .inr ⟨_, ⟨k + 1, by omega, rfl⟩, h1⟩⟩
    · obtain rfl : k = N := by omega
      gi_wp2
      go_end0
      exact ⟨⟨_, rfl⟩, .inl ⟨_, rfl, hJs⟩⟩
end Go.Proofs.Ytglafngeeggeeaa
