/- The law SchedPicks: of tasks that need no locks each pick is followed. -/
import Derived.Test.YtglafngeeggeeaaWho
namespace Go.Proofs.Ytglafngeeggeeaa
open Go.RowKit Go.Proofs.YtglafngeeggeeaaW.PrintWords Go.Proofs.Ytglafngeeggeeaa.PSch
set_option linter.unusedVariables false
set_option linter.unusedSimpArgs false

/-- Three tasks without locks. -/
def three (a b c : Nat) : List (List Int) := [List.replicate a 0, List.replicate b 0, List.replicate c 0]
theorem mayT_zeros (n : Nat) : mayT 0 (List.replicate n 0) = true := by
  induction n with
  | zero => rfl
  | succ n ih => rw [List.replicate_succ]; simp only [mayT]; rw [if_pos trivial]; exact ih
theorem three_may (a b c : Nat) : may (three a b c) = true := by
  unfold may three
  simp [mayT_zeros]
theorem three_few (a b c : Nat) (ha : a < 16) (hb : b < 16) (hc : c < 16) : FewT (three a b c) := by
  refine ⟨by unfold three; simp, fun t ht => ?_⟩
  unfold three at ht
  simp only [List.mem_cons, List.not_mem_nil, or_false] at ht
  rcases ht with rfl | rfl | rfl <;> exact ⟨by simp; omega, fun x hx => by rw [List.eq_of_mem_replicate hx]; exact wf0⟩
theorem rd_zeros (n : Nat) (i : Int) : rd (List.replicate n 0) i = 0 := by
  unfold rd
  simp [List.getD_eq_getElem?_getD, List.getElem?_replicate]
  split <;> rfl
theorem three_step (a b c : Nat) (xs : List Int) (n : Int) : stepOf (three a b c) xs n = 0 := by
  unfold stepOf
  have : ∀ t, t ∈ three a b c ∨ t = [] → ∀ i, rd t i = 0 := by
    intro t ht i
    rcases ht with ht | rfl
    · unfold three at ht
      simp only [List.mem_cons, List.not_mem_nil, or_false] at ht
      rcases ht with rfl | rfl | rfl <;> exact rd_zeros _ _
    · exact rd_zeros 0 i
  apply this
  unfold rd_L1
  rw [List.getD_eq_getElem?_getD]
  rcases h : (three a b c)[n.toNat]? with _ | t
  · exact .inr rfl
  · exact .inl (List.mem_of_getElem? h)
/-- What the law's loop knows: xs are the steps done; none has a lock. -/
theorem picks_round {a b c : Nat} {picks : List Int} {f i : Nat} {last : Int} {xs : List Int} {pre l : List S37} (hB : InB (three a b c) 3 xs)
    (hl : l = pre ++ turnsGo (three a b c) picks 3 f i last xs (fun _ => none)) :
    pre.length = l.length ∨ (pre.length < l.length ∧ ∃ z, 0 ≤ z ∧ z < 3 ∧ more (three a b c) xs z ∧ l.getD pre.length z37 = ⟨z, rd xs z⟩ ∧
      (rd xs (nameOf picks 3 i last) < ((rd_L1 (three a b c) (nameOf picks 3 i last)).length : Int) → z = nameOf picks 3 i last) ∧
      ∃ f', InB (three a b c) 3 (xs.set z.toNat (rd xs z + 1)) ∧ l = (pre ++ [⟨z, rd xs z⟩]) ++ turnsGo (three a b c) picks 3 f' (i + 1) z (xs.set z.toNat (rd xs z + 1)) (fun _ => none)) := by
  cases f with
  | zero =>
    simp only [turnsGo, List.append_nil] at hl
    exact .inl (by rw [hl])
  | succ f =>
    simp only [turnsGo] at hl
    rcases named_cases (three a b c) xs (fun _ => none) 3 (by decide) (nameOf picks 3 i last) with hz | ⟨z0, z1, zc⟩
    · rw [hz, if_pos (by decide), List.append_nil] at hl
      exact .inl (by rw [hl])
    · have hnr := nameOf_range picks 3 (by decide) i last
      have hfst := named_first (three a b c) xs (fun _ => none) 3 (nameOf picks 3 i last) 0 (by decide) (fun i' h => absurd h (by omega))
      have e0 : (nameOf picks 3 i last + ((0 : Nat) : Int)) % ((3 : Nat) : Int) = nameOf picks 3 i last := by
        rw [Int.natCast_zero, Int.add_zero]
        exact Int.emod_eq_of_lt hnr.1 hnr.2
      rw [e0] at hfst
      generalize nameOf picks 3 i last = nm at *
      generalize named (three a b c) xs (fun _ => none) 3 nm = z at *
      rw [if_neg (by omega)] at hl
      have hmo := can_more hB z z0 z1 zc
      rw [three_step, who_zero] at hl
      refine .inr ⟨by rw [hl]; simp, z, z0, z1, hmo, ?_, fun hlt => hfst ((can_iff _ _ _ _).2 ⟨by omega, rfl⟩), f, hB.step z z0 z1 hmo, by rw [List.append_assoc]; exact hl⟩
      rw [hl, List.getD_eq_getElem?_getD, List.getElem?_append_right (Nat.le_refl _)]
      simp
end Go.Proofs.Ytglafngeeggeeaa
