/- Plain Lean: what the printed functions of 'sched' and of its reference come to. -/
import Derived.Test.YtglafngeeggeeaaPlain
import Derived.Test.YtglafngeeggeeaaPSchx2
import Derived.Test.YtglafngeeggeeaaPSchx3
namespace Go.Proofs.Ytglafngeeggeeaa
open Go.RowKit Go.Proofs.YtglafngeeggeeaaW.PrintWords Go.Proofs.Ytglafngeeggeeaa.PSch
set_option linter.unusedVariables false
set_option linter.unusedSimpArgs false

/-- From some number of rounds on. -/
def Ev {α : Type} (g : Nat → Option α) (r : α) : Prop := ∃ k0, ∀ k, k0 ≤ k → g k = some r
theorem Ev.succ {α : Type} {g h : Nat → Option α} {r : α} (hg : ∀ k, g (k + 1) = h k) (hh : Ev h r) : Ev g r := by
  obtain ⟨k0, hk⟩ := hh
  refine ⟨k0 + 1, fun k hk1 => ?_⟩
  obtain ⟨k', rfl⟩ : ∃ k', k = k' + 1 := ⟨k - 1, by omega⟩
  rw [hg]; exact hk k' (by omega)
theorem Ev.of {α : Type} {g h : Nat → Option α} {r : α} (hg : ∀ k, g k = h k) (hh : Ev h r) : Ev g r := by
  obtain ⟨k0, hk⟩ := hh
  exact ⟨k0, fun k hk1 => (hg k).trans (hk k hk1)⟩
theorem Ev.done {α : Type} (r : α) : Ev (fun _ => some r) r := ⟨0, fun _ _ => rfl⟩
theorem Ev.bind {α β : Type} {g : Nat → Option α} {h : Nat → α → Option β} {a : α} {b : β} (hg : Ev g a) (hh : Ev (fun k => h k a) b) : Ev (fun k => (g k).bind (h k)) b := by
  obtain ⟨k0, h0⟩ := hg
  obtain ⟨k1, h1⟩ := hh
  refine ⟨k0 + k1, fun k hk => ?_⟩
  show (g k).bind (h k) = some b
  rw [h0 k (by omega)]
  exact h1 k (by omega)
theorem wrap64_id (x : Int) (h0 : -1000000000000 ≤ x) (h1 : x ≤ 1000000000000) : wrap64 x = x := by unfold wrap64; omega
theorem drop_getD {α : Type} (l : List α) (z : α) (i : Nat) (h : i < l.length) : l.drop i = l.getD i z :: l.drop (i + 1) := by
  rw [List.drop_eq_getElem_cons h, List.getD_eq_getElem?_getD, List.getElem?_eq_getElem h]; rfl
theorem rd_nat (l : List Int) (i : Nat) : rd l (i : Int) = l.getD i 0 := by unfold rd; simp
theorem rd_L1_nat (l : List (List Int)) (i : Nat) : rd_L1 l (i : Int) = l.getD i [] := by unfold rd_L1; simp
theorem rd_T37_nat (l : List S37) (i : Nat) : rd_T37 l (i : Int) = l.getD i z37 := by unfold rd_T37; simp
theorem rd_T41_nat (l : List S41) (i : Nat) : rd_T41 l (i : Int) = l.getD i z41 := by unfold rd_T41; simp

/-! ### Steps -/
theorem steps_ev (ts : List (List Int)) (hF : FewT ts) : ∀ m j (c : Int), ts.length - j = m → j ≤ ts.length → 0 ≤ c → c ≤ 1000 * (j : Int) → Ev (fun k => sched_Steps.l0 k c ts (ts.length : Int) (j : Int)) (c + (total (ts.drop j) : Int)) := by
  intro m
  have hN := hF.1
  induction m with
  | zero =>
    intro j c hm hj c0 c1
    obtain rfl : j = ts.length := by omega
    refine Ev.succ (h := fun _ => some c) (fun k => ?_) ?_
    · simp only [sched_Steps.l0]; rw [if_neg (by omega)]
    · rw [List.drop_length]; simp only [total, List.map_nil, List.sum_nil, Int.natCast_zero, Int.add_zero]; exact Ev.done c
  | succ m ih =>
    intro j c hm hj c0 c1
    have hl : (ts.getD j []).length ≤ 1000 := by
      have := (hF.2 _ (rd_L1_mem ts (j : Int) (by omega) (by omega))).1
      rwa [rd_L1_nat] at this
    refine Ev.succ (h := fun k => sched_Steps.l0 k (c + ((ts.getD j []).length : Int)) ts (ts.length : Int) ((j + 1 : Nat) : Int)) (fun k => ?_) ?_
    · simp only [sched_Steps.l0]
      rw [if_pos (by omega), if_pos (by omega), if_pos (by omega), rd_L1_nat, wrap64_id _ (by omega) (by omega), wrap64_id _ (by omega) (by omega)]
      rfl
    · have := ih (j + 1) (c + ((ts.getD j []).length : Int)) (by omega) (by omega) (by omega) (by push_cast; omega)
      rw [drop_getD ts [] j (by omega)]
      have e : (c + ((total (ts.getD j [] :: ts.drop (j + 1)) : Nat) : Int)) = c + ((ts.getD j []).length : Int) + ((total (ts.drop (j + 1)) : Nat) : Int) := by
        unfold total
        simp only [List.map_cons, List.sum_cons]
        push_cast; omega
      rw [e]; exact this
theorem steps_f (ts : List (List Int)) (hF : FewT ts) : Ev (fun k => sched_Steps.f k ts) (total ts : Int) := by
  have := steps_ev ts hF _ 0 0 rfl (by omega) (by omega) (by omega)
  simpa [sched_Steps.f] using this

/-! ### May -/
theorem may_l1 (ts : List (List Int)) (hF : FewT ts) (x10 : Int) (t : List Int) (ht : t.length ≤ 1000) (hw : ∀ x ∈ t, wf64 x) (r : Bool) (hnext : Ev (fun k => sched_May.l0 k ts (ts.length : Int) (wrap64 (x10 + 1))) r) :
    ∀ m j (h : Int), t.length - j = m → j ≤ t.length → 0 ≤ h → Ev (fun k => sched_May.l1 k h ts (ts.length : Int) x10 t (t.length : Int) (j : Int)) (mayT h (t.drop j) && r) := by
  intro m
  induction m with
  | zero =>
    intro j h hm hj h0
    obtain rfl : j = t.length := by omega
    rw [List.drop_length]
    simp only [mayT]
    by_cases e : h = 0
    · subst e
      refine Ev.succ (h := fun k => sched_May.l0 k ts (ts.length : Int) (wrap64 (x10 + 1))) (fun k => ?_) (by simpa using hnext)
      simp only [sched_May.l1]; rw [if_neg (by omega)]; exact if_pos trivial
    · refine Ev.succ (h := fun k => some false) (fun k => ?_) (by rw [show (h == 0) = false by simpa using e]; exact Ev.done false)
      simp only [sched_May.l1]; rw [if_neg (by omega), if_neg e]
  | succ m ih =>
    intro j h hm hj h0
    have hw' := hw (t.getD j 0) (by rw [List.getD_eq_getElem?_getD, List.getElem?_eq_getElem (by omega : j < t.length)]; exact List.getElem_mem _)
    rw [wf64_iff] at hw'
    rw [drop_getD t 0 j (by omega)]
    generalize hs : t.getD j 0 = s at *
    have hj1 : wrap64 ((j : Int) + 1) = ((j + 1 : Nat) : Int) := by rw [wrap64_id _ (by omega) (by omega)]; rfl
    simp only [mayT]
    by_cases s0 : s = 0
    · rw [if_pos s0]
      refine Ev.succ (fun k => ?_) (ih (j + 1) h (by omega) (by omega) h0)
      simp only [sched_May.l1]
      rw [if_pos (by omega), if_pos (by omega), if_pos (by omega), rd_nat, hs, if_pos s0, hj1]
    · rw [if_neg s0]
      have hneg : ∀ b : Bool, b = decide (0 < s ∧ h = 0) → Ev (fun k => sched_May.j2 k h s ts (ts.length : Int) x10 t (t.length : Int) (j : Int) b) ((if 0 < s ∧ h = 0 then mayT s (t.drop (j + 1)) else if s < 0 ∧ h = wrap64 (-s) then mayT 0 (t.drop (j + 1)) else false) && r) := by
        intro b hb
        by_cases sp : 0 < s ∧ h = 0
        · rw [if_pos sp]
          refine Ev.succ (fun k => ?_) (ih (j + 1) s (by omega) (by omega) (by omega))
          simp only [sched_May.j2]
          rw [if_pos (by rw [hb]; exact decide_eq_true sp), hj1]
        · rw [if_neg sp]
          have hbf : ¬ b = true := by rw [hb]; simpa using sp
          by_cases sn : s < 0
          · by_cases e : h = wrap64 (-s)
            · rw [if_pos ⟨sn, e⟩]
              refine Ev.succ (fun k => ?_) (ih (j + 1) 0 (by omega) (by omega) (Int.le_refl _))
              simp only [sched_May.j2]
              rw [if_neg hbf, if_pos sn, if_pos e, hj1]
            · rw [if_neg (fun h => e h.2)]
              refine Ev.succ (h := fun _ => some false) (fun k => ?_) (Ev.done false)
              simp only [sched_May.j2]
              rw [if_neg hbf, if_pos sn, if_neg e]
          · rw [if_neg (fun h => sn h.1)]
            refine Ev.succ (h := fun _ => some false) (fun k => ?_) (Ev.done false)
            simp only [sched_May.j2]
            rw [if_neg hbf, if_neg sn]
      by_cases sp : s > 0
      · refine Ev.succ (fun k => ?_) (hneg (h == 0) ?_)
        · simp only [sched_May.l1]
          rw [if_pos (by omega), if_pos (by omega), if_pos (by omega), rd_nat, hs, if_neg s0, if_pos sp]
        · rw [Bool.eq_iff_iff]; simp; omega
      · refine Ev.succ (fun k => ?_) (hneg false ?_)
        · simp only [sched_May.l1]
          rw [if_pos (by omega), if_pos (by omega), if_pos (by omega), rd_nat, hs, if_neg s0, if_neg sp]
        · symm; rw [decide_eq_false_iff_not]; omega
theorem may_ev (ts : List (List Int)) (hF : FewT ts) : ∀ m j, ts.length - j = m → j ≤ ts.length → Ev (fun k => sched_May.l0 k ts (ts.length : Int) (j : Int)) (may (ts.drop j)) := by
  intro m
  have hN := hF.1
  induction m with
  | zero =>
    intro j hm hj
    obtain rfl : j = ts.length := by omega
    refine Ev.succ (h := fun _ => some true) (fun k => ?_) (by rw [List.drop_length]; exact Ev.done true)
    simp only [sched_May.l0]; rw [if_neg (by omega)]
  | succ m ih =>
    intro j hm hj
    have ht := hF.2 _ (rd_L1_mem ts (j : Int) (by omega) (by omega))
    rw [rd_L1_nat] at ht
    have := ih (j + 1) (by omega) (by omega)
    rw [drop_getD ts [] j (by omega)]
    have h1 := may_l1 ts hF (j : Int) _ ht.1 ht.2 (may (ts.drop (j + 1))) (by rw [wrap64_id _ (by omega) (by omega)]; exact this) _ 0 0 rfl (by omega) (Int.le_refl _)
    refine Ev.succ (fun k => ?_) h1
    simp only [sched_May.l0]
    rw [if_pos (by omega), if_pos (by omega), if_pos (by omega), rd_L1_nat]
    rfl
theorem may_f (ts : List (List Int)) (hF : FewT ts) : Ev (fun k => sched_May.f k ts) (may ts) := by
  have := may_ev ts hF _ 0 rfl (by omega)
  simpa [sched_May.f] using this

/-! ### Few -/
theorem few_ev (ts : List (List Int)) : ∀ m j, 7 - j = m → j ≤ 7 → (∀ t ∈ ts.take j, t.length ≤ 16) → ∃ b, Ev (fun k => gatepostref22_Few.l0 k ts (j : Int)) b ∧ (b = true → ts.length ≤ 6 ∧ ∀ t ∈ ts, t.length ≤ 16) := by
  intro m
  induction m with
  | zero =>
    intro j hm hj hall
    obtain rfl : j = 7 := by omega
    refine ⟨decide ((ts.length : Int) ≤ 6), ?_, fun h => ?_⟩
    · have hj1 : Ev (fun k => gatepostref22_Few.j1 k ts ((7 : Nat) : Int) false) (decide ((ts.length : Int) ≤ 6)) := by
        refine Ev.succ (h := fun _ => some _) (fun k => ?_) (Ev.done _)
        simp only [gatepostref22_Few.j1]
        rw [if_neg (by simp)]
      refine Ev.succ (fun k => ?_) hj1
      simp only [gatepostref22_Few.l0]
      split
      · rfl
      · rfl
    · have h' := of_decide_eq_true h
      refine ⟨by omega, fun t ht => hall t ?_⟩
      rwa [List.take_of_length_le (by omega)]
  | succ m ih =>
    intro j hm hj hall
    by_cases hlt : j < ts.length
    · by_cases hl : (ts.getD j []).length > 16
      · refine ⟨false, ?_, fun h => by cases h⟩
        have hj1 : Ev (fun k => gatepostref22_Few.j1 k ts (j : Int) true) false := by
          refine Ev.succ (h := fun _ => some _) (fun k => ?_) (Ev.done _)
          simp only [gatepostref22_Few.j1]
          rw [if_pos trivial, if_pos (by omega), if_pos (by omega), rd_L1_nat, if_pos (by omega)]
        refine Ev.succ (fun k => ?_) hj1
        simp only [gatepostref22_Few.l0]
        rw [if_pos (by omega), decide_eq_true (by omega : (j : Int) < 7)]
      · obtain ⟨b, hb, hb2⟩ := ih (j + 1) (by omega) (by omega) (by
          intro t ht
          rw [List.take_add_one] at ht
          rcases List.mem_append.1 ht with h | h
          · exact hall t h
          · rw [List.getElem?_eq_getElem hlt] at h
            simp only [Option.toList_some, List.mem_singleton] at h
            subst h
            rw [List.getD_eq_getElem?_getD, List.getElem?_eq_getElem hlt] at hl
            simpa using hl)
        refine ⟨b, ?_, hb2⟩
        have hj1 : Ev (fun k => gatepostref22_Few.j1 k ts (j : Int) true) b := by
          refine Ev.succ (fun k => ?_) hb
          simp only [gatepostref22_Few.j1]
          rw [if_pos trivial, if_pos (by omega), if_pos (by omega), rd_L1_nat, if_neg (by omega), wrap64_id _ (by omega) (by omega)]
          rfl
        refine Ev.succ (fun k => ?_) hj1
        simp only [gatepostref22_Few.l0]
        rw [if_pos (by omega), decide_eq_true (by omega : (j : Int) < 7)]
    · refine ⟨decide ((ts.length : Int) ≤ 6), ?_, fun h => ?_⟩
      · have hj1 : Ev (fun k => gatepostref22_Few.j1 k ts (j : Int) false) (decide ((ts.length : Int) ≤ 6)) := by
          refine Ev.succ (h := fun _ => some _) (fun k => ?_) (Ev.done _)
          simp only [gatepostref22_Few.j1]
          rw [if_neg (by simp)]
        refine Ev.succ (fun k => ?_) hj1
        simp only [gatepostref22_Few.l0]
        rw [if_neg (by omega)]
      · have h' := of_decide_eq_true h
        refine ⟨by omega, fun t ht => hall t ?_⟩
        rwa [List.take_of_length_le (by omega)]
theorem few_f (ts : List (List Int)) (hw : ∀ t ∈ ts, ∀ x ∈ t, wf64 x) : ∃ b, Ev (fun k => gatepostref22_Few.f k ts) b ∧ (b = true → FewT ts) := by
  obtain ⟨b, h1, h2⟩ := few_ev ts _ 0 rfl (by omega) (by simp)
  refine ⟨b, by simpa [gatepostref22_Few.f] using h1, fun h => ?_⟩
  obtain ⟨a1, a2⟩ := h2 h
  exact ⟨by omega, fun t ht => ⟨by have := a2 t ht; omega, hw t ht⟩⟩

/-! ### awake -/
theorem order_f (ts : List (List Int)) (picks : List Int) (hF : FewT ts) (hp : picks.length ≤ 1000000) : sched_Order.f ts picks = some (if ts.length = 0 then [] else turnsGo ts picks ts.length (total ts + 1) 0 (-1) (List.replicate ts.length 0) (fun _ => none)) := by
  unfold sched_Order.f; rw [if_pos ⟨hF, hp⟩]
theorem awake_f : Ev (fun k => gatepostlaw22_awake.f k) true := by
  have e1 : sched_Order.f [[1, 0, -1], [1, -1]] [0, 1, 1] = some [⟨0, 0⟩, ⟨0, 1⟩, ⟨0, 2⟩, ⟨1, 0⟩, ⟨1, 1⟩] := by kernel_rfl
  have F1 : FewT [[1, 0, -1], [1, -1]] := by decide +kernel
  have F2 : FewT [[1]] := by decide +kernel
  have m1 := may_f _ F1
  have m2 := may_f _ F2
  have s1 := steps_f _ F1
  rw [show may [[1, 0, -1], [1, -1]] = true by decide +kernel] at m1
  rw [show may [[1]] = false by decide +kernel] at m2
  rw [show ((total [[1, 0, -1], [1, -1]] : Nat) : Int) = 5 by decide +kernel] at s1
  unfold gatepostlaw22_awake.f
  simp only [Option.bind_some, e1]
  refine Ev.of (h := fun k => (sched_May.f k [[1, 0, -1], [1, -1]]).bind fun t122 => if t122 = true then (sched_May.f k [[1]]).bind fun t129 => if t129 = true then some false else (sched_Steps.f k [[1, 0, -1], [1, -1]]).bind fun t130 => some (t130 == 5) else some false) (fun k => rfl) ?_
  refine Ev.bind m1 ?_
  simp only [if_true]
  refine Ev.bind m2 ?_
  simp only [Bool.false_eq_true, if_false]
  exact Ev.bind s1 (Ev.done true)
end Go.Proofs.Ytglafngeeggeeaa
