/- Plain Lean: the laws of 'sched' as the printed functions say them: the same turns, ends, and turns in turn. -/
import Derived.Test.YtglafngeeggeeaaLaw
import Derived.Test.YtglafngeeggeeaaPSchx6
import Derived.Test.YtglafngeeggeeaaPSchx7
namespace Go.Proofs.Ytglafngeeggeeaa
open Go.RowKit Go.Proofs.YtglafngeeggeeaaW.PrintWords Go.Proofs.Ytglafngeeggeeaa.PSch
set_option linter.unusedVariables false
set_option linter.unusedSimpArgs false

/-! ### The reference's May -/
theorem wf0 : wf64 0 := by rw [wf64_iff]; omega
theorem rmay_t1 (s h : Int) (hw : -9223372036854775808 ≤ s ∧ s ≤ 9223372036854775807) (hh : -9223372036854775808 ≤ h ∧ h ≤ 9223372036854775807) (sn : s < 0) (hp : h > 0) : (s == wrap64 (-h)) = decide (s < 0 ∧ h = wrap64 (-s)) := by
  rw [Bool.eq_iff_iff, decide_eq_true_iff, beq_iff_eq]
  unfold wrap64
  omega
theorem rmay_t2 (s h : Int) (hw : -9223372036854775808 ≤ s ∧ s ≤ 9223372036854775807) (h0 : 0 ≤ h) (hp : ¬ h > 0) : false = decide (s < 0 ∧ h = wrap64 (-s)) := by
  symm
  rw [decide_eq_false_iff_not]
  unfold wrap64
  omega
theorem rmay_l1 (ts : List (List Int)) (hF : FewT ts) (i : Nat) (hi : i < ts.length) (r : Bool) (hnext : Ev (fun k => gatepostref22_May.l0 k ts ((i + 1 : Nat) : Int)) r) :
    ∀ m j (h : Int), (ts.getD i []).length - j = m → j ≤ (ts.getD i []).length → 0 ≤ h → wf64 h → Ev (fun k => gatepostref22_May.l1 k ts (i : Int) h (j : Int)) (mayT h ((ts.getD i []).drop j) && r) := by
  intro m
  have hN := hF.1
  have htt := hF.2 _ (rd_L1_mem ts (i : Int) (by omega) (by omega))
  rw [rd_L1_nat] at htt
  obtain ⟨ht, hw⟩ := htt
  have hi1 : wrap64 ((i : Int) + 1) = ((i + 1 : Nat) : Int) := by rw [wrap64_id _ (by omega) (by omega)]; rfl
  have hrd : rd_L1 ts (i : Int) = ts.getD i [] := rd_L1_nat ts i
  generalize ts.getD i [] = t at *
  have i0 : 0 ≤ (i : Int) := Int.natCast_nonneg _
  have i1 : (i : Int) < (ts.length : Int) := by omega
  induction m with
  | zero =>
    intro j h hm hj h0 hh
    obtain rfl : j = t.length := by omega
    rw [List.drop_length]
    simp only [mayT]
    by_cases e : h = 0
    · refine Ev.succ (fun k => ?_) (show Ev (fun k => gatepostref22_May.l0 k ts ((i + 1 : Nat) : Int)) ((h == 0) && r) by rw [e]; simpa using hnext)
      simp only [gatepostref22_May.l1]
      rw [if_pos (by omega), if_pos (by omega), hrd, if_neg (by omega), if_pos e, hi1]
    · refine Ev.succ (h := fun k => some false) (fun k => ?_) (by rw [show (h == 0) = false by simpa using e]; exact Ev.done false)
      simp only [gatepostref22_May.l1]
      rw [if_pos (by omega), if_pos (by omega), hrd, if_neg (by omega), if_neg e]
  | succ m ih =>
    intro j h hm hj h0 hh
    have hw' := hw (t.getD j 0) (by rw [List.getD_eq_getElem?_getD, List.getElem?_eq_getElem (by omega : j < t.length)]; exact List.getElem_mem _)
    have a1 : t.length - (j + 1) = m := by omega
    have a2 : j + 1 ≤ t.length := by omega
    have a3 : (j : Int) < (t.length : Int) := by omega
    have a4 : 0 ≤ (j : Int) := Int.natCast_nonneg _
    have hw2 := hw'
    have hh2 := hh
    rw [wf64_iff] at hw' hh2
    rw [drop_getD t 0 j (by omega)]
    generalize hs : t.getD j 0 = s at *
    have hj1 : wrap64 ((j : Int) + 1) = ((j + 1 : Nat) : Int) := by rw [wrap64_id _ (by omega) (by omega)]; rfl
    simp only [mayT]
    have hj3 : ∀ b : Bool, b = decide (s < 0 ∧ h = wrap64 (-s)) → ¬ (0 < s ∧ h = 0) → Ev (fun k => gatepostref22_May.j3 k ts (i : Int) h (j : Int) s b)
        ((if s = 0 then mayT h (t.drop (j + 1)) else if 0 < s ∧ h = 0 then mayT s (t.drop (j + 1)) else if s < 0 ∧ h = wrap64 (-s) then mayT 0 (t.drop (j + 1)) else false) && r) := by
      intro b hb sp
      by_cases e : s < 0 ∧ h = wrap64 (-s)
      · rw [if_neg (fun h' => by rw [h'] at e; exact absurd e.1 (by decide)), if_neg sp, if_pos e]
        refine Ev.succ (fun k => ?_) (ih (j + 1) 0 a1 a2 (Int.le_refl _) wf0)
        simp only [gatepostref22_May.j3]
        rw [if_pos (hb.trans (decide_eq_true e)), hj1]
      · have hbf : ¬ b = true := fun h' => e (of_decide_eq_true (hb.symm.trans h'))
        by_cases s0 : s = 0
        · rw [if_pos s0]
          refine Ev.succ (fun k => ?_) (ih (j + 1) h a1 a2 h0 hh)
          simp only [gatepostref22_May.j3]
          rw [if_neg hbf, if_pos s0, hj1]
        · rw [if_neg s0, if_neg sp, if_neg e]
          refine Ev.succ (h := fun _ => some false) (fun k => ?_) (Ev.done false)
          simp only [gatepostref22_May.j3]
          rw [if_neg hbf, if_neg s0]
    have hj2 : ∀ b : Bool, b = decide (0 < s ∧ h = 0) → Ev (fun k => gatepostref22_May.j2 k ts (i : Int) h (j : Int) s b)
        ((if s = 0 then mayT h (t.drop (j + 1)) else if 0 < s ∧ h = 0 then mayT s (t.drop (j + 1)) else if s < 0 ∧ h = wrap64 (-s) then mayT 0 (t.drop (j + 1)) else false) && r) := by
      intro b hb
      by_cases sp : 0 < s ∧ h = 0
      · rw [if_neg (fun h' => by rw [h'] at sp; exact absurd sp.1 (by decide)), if_pos sp]
        refine Ev.succ (fun k => ?_) (ih (j + 1) s a1 a2 (Int.le_of_lt sp.1) hw2)
        simp only [gatepostref22_May.j2]
        rw [if_pos (hb.trans (decide_eq_true sp)), hj1]
      · have hbf : ¬ b = true := fun h' => sp (of_decide_eq_true (hb.symm.trans h'))
        by_cases sn : s < 0
        · by_cases hp : h > 0
          · refine Ev.succ (fun k => ?_) (hj3 (s == wrap64 (-h)) ?_ sp)
            · simp only [gatepostref22_May.j2]
              rw [if_neg hbf, if_pos sn, if_pos hp]
            · exact rmay_t1 s h hw' hh2 sn hp
          · refine Ev.succ (fun k => ?_) (hj3 false ?_ sp)
            · simp only [gatepostref22_May.j2]
              rw [if_neg hbf, if_pos sn, if_neg hp]
            · exact rmay_t2 s h hw' h0 hp
        · refine Ev.succ (fun k => ?_) (hj3 false ?_ sp)
          · simp only [gatepostref22_May.j2]
            rw [if_neg hbf, if_neg sn]
          · exact (decide_eq_false (fun h' => sn h'.1)).symm
    by_cases sp : s > 0
    · refine Ev.succ (fun k => ?_) (hj2 (h == 0) ?_)
      · simp only [gatepostref22_May.l1]
        rw [if_pos i0, if_pos i1, hrd, if_pos a3, if_pos a4, rd_nat, hs, if_pos sp]
      · rw [Bool.eq_iff_iff, decide_eq_true_iff, beq_iff_eq]; exact ⟨fun h' => ⟨sp, h'⟩, fun h' => h'.2⟩
    · refine Ev.succ (fun k => ?_) (hj2 false ?_)
      · simp only [gatepostref22_May.l1]
        rw [if_pos i0, if_pos i1, hrd, if_pos a3, if_pos a4, rd_nat, hs, if_neg sp]
      · exact (decide_eq_false (fun h' => sp h'.1)).symm
theorem rmay_ev (ts : List (List Int)) (hF : FewT ts) : ∀ m j, ts.length - j = m → j ≤ ts.length → Ev (fun k => gatepostref22_May.l0 k ts (j : Int)) (may (ts.drop j)) := by
  intro m
  induction m with
  | zero =>
    intro j hm hj
    obtain rfl : j = ts.length := by omega
    refine Ev.succ (h := fun _ => some true) (fun k => ?_) (by rw [List.drop_length]; exact Ev.done true)
    simp only [gatepostref22_May.l0]; rw [if_neg (by omega)]
  | succ m ih =>
    intro j hm hj
    have h1 := rmay_l1 ts hF j (by omega) (may (ts.drop (j + 1))) (ih (j + 1) (by omega) (by omega)) _ 0 0 rfl (by omega) (Int.le_refl _) wf0
    rw [drop_getD ts [] j (by omega)]
    refine Ev.succ (fun k => ?_) h1
    simp only [gatepostref22_May.l0]
    rw [if_pos (by omega)]; rfl
theorem rmay_f (ts : List (List Int)) (hF : FewT ts) : Ev (fun k => gatepostref22_May.f k ts) (may ts) := by
  have := rmay_ev ts hF _ 0 rfl (by omega)
  simpa [gatepostref22_May.f] using this

/-! ### SchedOrders -/
/-- The turns. -/
def turnsOf (ts : List (List Int)) (picks : List Int) : List S37 := if ts.length = 0 then [] else turnsGo ts picks ts.length (total ts + 1) 0 (-1) (List.replicate ts.length 0) (fun _ => none)
theorem sum_zeros (n : Nat) : (List.replicate n (0 : Int)).sum = 0 := by
  induction n with
  | zero => rfl
  | succ n ih => rw [List.replicate_succ, List.sum_cons, ih]; rfl
theorem InB.start (ts : List (List Int)) : InB ts ts.length (List.replicate ts.length 0) := by
  have hrd : ∀ n : Int, rd (List.replicate ts.length 0) n = 0 := by
    intro n
    unfold rd
    simp [List.getD_eq_getElem?_getD, List.getElem?_replicate]
    split <;> rfl
  exact ⟨by simp, fun n _ _ => by rw [hrd]; exact ⟨Int.le_refl _, Int.natCast_nonneg _⟩⟩
theorem go_len (ts : List (List Int)) (picks : List Int) : ∀ f i last xs L, (turnsGo ts picks ts.length f i last xs L).length ≤ f := by
  intro f
  induction f with
  | zero => intros; simp [turnsGo]
  | succ f ih =>
    intro i last xs L
    simp only [turnsGo]
    split
    · simp
    · simp only [List.length_cons]; exact Nat.succ_le_succ (ih (i + 1) _ _ _)
theorem turns_len (ts : List (List Int)) (picks : List Int) (hF : FewT ts) : (turnsOf ts picks).length ≤ 100000000 := by
  unfold turnsOf
  split
  · simp
  · have hF0 := hF
    have h1 := go_len ts picks (total ts + 1) 0 (-1) (List.replicate ts.length 0) (fun _ => none)
    have h2 : total ts ≤ 1000000 := by
      have : ∀ (l : List (List Int)), (∀ t ∈ l, t.length ≤ 1000) → (l.map List.length).sum ≤ 1000 * l.length := by
        intro l
        induction l with
        | nil => intro _; simp
        | cons a l ih =>
          intro hl
          have h1 := hl a (List.mem_cons_self)
          have h2 := ih (fun t ht => hl t (List.mem_cons_of_mem _ ht))
          simp only [List.map_cons, List.sum_cons, List.length_cons]
          omega
      have h1 := this ts (fun t ht => (hF.2 t ht).1)
      have h2 := hF.1
      unfold total
      omega
    omega
theorem pureOrders (l0 : List (List Int)) (l1 : List Int) (hw : ∀ t ∈ l0, ∀ x ∈ t, wf64 x) : Ev (fun k => gatepostlaw22_SchedOrders.f k l0 l1) true := by
  unfold gatepostlaw22_SchedOrders.f
  refine Ev.bind awake_f ?_
  obtain ⟨b, hb, hb2⟩ := few_f l0 hw
  refine Ev.bind hb ?_
  have hout : Ev (fun k => gatepostlaw22_SchedOrders.j0 k l0 l1 true true) true := by
    refine Ev.succ (h := fun _ => some true) (fun k => ?_) (Ev.done true)
    simp only [gatepostlaw22_SchedOrders.j0]; exact if_pos trivial
  by_cases hbt : b = true
  · simp only [if_pos hbt]
    have hF := hb2 hbt
    by_cases hp : (l1.length : Int) > 100
    · rw [decide_eq_true hp]; exact hout
    · rw [decide_eq_false hp]
      have hp' : l1.length ≤ 1000000 := by omega
      refine Ev.succ (h := fun k => (sched_Order.f l0 l1).bind fun t166 => ((gatepostref22_Order.f k l0 l1).bind fun t169 => ((gatepostlaw22_same.f k t166 t169).bind fun t172 => (if t172 = true then ((sched_May.f k l0).bind fun t173 => ((gatepostref22_May.f k l0).bind fun t174 => (if (t173 == t174) = true then ((sched_Steps.f k l0).bind fun t175 => ((gatepostref22_Steps.f k l0).bind fun t176 => (some (t175 == t176)))) else (some false)))) else (some false))))) (fun k => ?_) ?_
      · simp only [gatepostlaw22_SchedOrders.j0]
        rw [if_neg (by simp)]; exact if_pos trivial
      · rw [order_f l0 l1 hF hp']
        simp only [Option.bind_some]
        refine Ev.bind (reforder_f l0 l1 hp' hF) ?_
        refine Ev.bind (same_f _ (turns_len l0 l1 hF)) ?_
        simp only [if_true]
        refine Ev.bind (may_f l0 hF) ?_
        refine Ev.bind (rmay_f l0 hF) ?_
        simp only [beq_self_eq_true, if_true]
        refine Ev.bind (steps_f l0 hF) ?_
        refine Ev.bind (rsteps_f l0 hF) ?_
        simp only [beq_self_eq_true]
        exact Ev.done true
  · simp only [if_neg hbt]
    exact hout
end Go.Proofs.Ytglafngeeggeeaa
