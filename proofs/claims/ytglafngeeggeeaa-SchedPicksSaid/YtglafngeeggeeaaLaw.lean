/- Plain Lean: the reference's turns are the program's; the laws of 'sched' as the printed functions say them. -/
import Derived.Test.YtglafngeeggeeaaRun
namespace Go.Proofs.Ytglafngeeggeeaa
open Go.RowKit Go.Proofs.YtglafngeeggeeaaW.PrintWords Go.Proofs.Ytglafngeeggeeaa.PSch
set_option linter.unusedVariables false
set_option linter.unusedSimpArgs false

theorem named_first (ts : List (List Int)) (xs : List Int) (L : Int → Option Int) (N : Nat) (s : Int) (j : Nat) (hj : j < N) (hb : ∀ i, i < j → canB ts xs L ((s + (i : Int)) % (N : Int)) = false) (hc : canB ts xs L ((s + (j : Int)) % (N : Int)) = true) :
    named ts xs L N s = (s + (j : Int)) % (N : Int) := by
  unfold named
  rw [List.find?_map]
  have : (List.range N).find? (canB ts xs L ∘ fun (k : Nat) => (s + (k : Int)) % (N : Int)) = some j := by
    rw [List.find?_range_eq_some]
    exact ⟨hc, List.mem_range.2 hj, fun i hi => by simp [hb i hi]⟩
  rw [this]; rfl
theorem named_none (ts : List (List Int)) (xs : List Int) (L : Int → Option Int) (N : Nat) (s : Int) (hb : ∀ i, i < N → canB ts xs L ((s + (i : Int)) % (N : Int)) = false) : named ts xs L N s = -1 := by
  unfold named
  rw [List.find?_eq_none.2]
  · rfl
  · intro x hx
    obtain ⟨i, hi, rfl⟩ := List.mem_map.1 hx
    rw [hb i (List.mem_range.1 hi)]; simp
def c41 (t : S37) : S41 := ⟨t.f0, t.f1⟩

theorem order_l1 {ts : List (List Int)} {picks : List Int} {acc : List S41} {xs : List Int} {L : Int → Option Int} {last : Int} (h : Rel ts acc xs L last) (hF : FewT ts) (hB : InB ts ts.length xs) (hl : acc.length ≤ 100000000) (hN0 : 0 < ts.length) (i : Nat) (hi : i ≤ 100000000) (s : Int) (hs0 : 0 ≤ s) (hs1 : s < (ts.length : Int)) (r : List S41)
    (hend : named ts xs L ts.length s = -1 → r = acc)
    (hstep : ∀ n, 0 ≤ n → n < (ts.length : Int) → canB ts xs L n = true → named ts xs L ts.length s = n → Ev (fun k => gatepostref22_Order.l0 k ts picks (acc ++ [⟨n, rd xs n⟩]) ((i + 1 : Nat) : Int)) r) :
    ∀ m j, ts.length - j = m → j ≤ ts.length → (∀ i', i' < j → canB ts xs L ((s + (i' : Int)) % (ts.length : Int)) = false) → Ev (fun k => gatepostref22_Order.l1 k ts picks acc (i : Int) s (j : Int)) r := by
  intro m
  have hN := hF.1
  induction m with
  | zero =>
    intro j hm hj hb
    obtain rfl : j = ts.length := by omega
    have := hend (named_none ts xs L _ s hb)
    subst this
    refine Ev.succ (h := fun _ => some r) (fun k => ?_) (Ev.done _)
    simp only [gatepostref22_Order.l1]
    rw [if_neg (by omega)]; exact if_pos trivial
  | succ m ih =>
    intro j hm hj hb
    have hj1 : wrap64 ((j : Int) + 1) = ((j + 1 : Nat) : Int) := by rw [wrap64_id _ (by omega) (by omega)]; rfl
    have hi1 : wrap64 ((i : Int) + 1) = ((i + 1 : Nat) : Int) := by rw [wrap64_id _ (by omega) (by omega)]; rfl
    have hmod : Int.tmod (wrap64 (s + (j : Int))) (ts.length : Int) = (s + (j : Int)) % (ts.length : Int) := by
      rw [wrap64_id _ (by omega) (by omega)]
      exact Int.tmod_eq_emod_of_nonneg (by omega)
    have hn0 : 0 ≤ (s + (j : Int)) % (ts.length : Int) := Int.emod_nonneg _ (by omega)
    have hn1 : (s + (j : Int)) % (ts.length : Int) < (ts.length : Int) := Int.emod_lt_of_pos _ (by omega)
    have hcan := can_f h hF hB hl _ hn0 hn1
    have hfst := named_first ts xs L ts.length s j (by omega) hb
    have hih := ih (j + 1) (by omega) (by omega)
    have hat := at_f acc ((s + (j : Int)) % (ts.length : Int)) hl
    rw [h.cn _ hn0 hn1] at hat
    have hst := hstep _ hn0 hn1
    generalize hn : (s + (j : Int)) % (ts.length : Int) = n at *
    refine Ev.succ (h := fun k => (gatepostref22_can.f k ts acc n).bind fun t151 => (if t151 = true then (if (j : Int) = (ts.length : Int) then (some acc) else ((gatepostref22_at.f k acc n).bind fun t152 => (if acc.length < 8796093022208 then (gatepostref22_Order.l0 k ts picks (acc ++ [(⟨n, t152⟩ : S41)]) ((i + 1 : Nat) : Int)) else (none)))) else (gatepostref22_Order.l1 k ts picks acc (i : Int) s ((j + 1 : Nat) : Int)))) (fun k => ?_) ?_
    · simp only [gatepostref22_Order.l1]
      rw [if_pos (by omega), if_neg (by omega), hmod, hj1, hi1]
    · refine Ev.bind hcan ?_
      by_cases e : canB ts xs L n = true
      · simp only [if_pos e]
        simp only [if_neg (show ¬ ((j : Int) = (ts.length : Int)) by omega)]
        refine Ev.bind hat ?_
        simp only [if_pos (show acc.length < 8796093022208 by omega)]
        exact hst e (hfst e)
      · simp only [if_neg e]
        refine hih (fun i' hi' => ?_)
        rcases Nat.lt_or_ge i' j with h1 | h1
        · exact hb i' h1
        · obtain rfl : i' = j := by omega
          rw [hn]; simpa using e

theorem order_ev {ts : List (List Int)} (picks : List Int) (hp : picks.length ≤ 1000000) (hF : FewT ts) (hN0 : 0 < ts.length) : ∀ (f : Nat) (acc : List S41) (i : Nat) (xs : List Int) (L : Int → Option Int) (last : Int), Rel ts acc xs L last → InB ts ts.length xs → xs.sum = (i : Int) → acc.length = i →
    (total ts : Int) < (i : Int) + (f : Int) → Ev (fun k => gatepostref22_Order.l0 k ts picks acc (i : Int)) (acc ++ (turnsGo ts picks ts.length f i last xs L).map c41) := by
  intro f
  have hN := hF.1
  have htot := total_le hF
  induction f with
  | zero =>
    intro acc i xs L last h hB hs hl hf
    have := (hB.sum_le rfl).1
    omega
  | succ f ih =>
    intro acc i xs L last h hB hs hl hf
    have hsum := (hB.sum_le rfl).1
    have hi : i ≤ 100000000 := by omega
    have hnr := nameOf_range picks ts.length hN0 i last
    simp only [turnsGo]
    have hl1 := order_l1 h hF hB (by omega) hN0 i hi (nameOf picks ts.length i last) hnr.1 hnr.2 (picks := picks)
      (acc ++ (if named ts xs L ts.length (nameOf picks ts.length i last) < 0 then []
        else ⟨named ts xs L ts.length (nameOf picks ts.length i last), rd xs (named ts xs L ts.length (nameOf picks ts.length i last))⟩ ::
          turnsGo ts picks ts.length f (i + 1) (named ts xs L ts.length (nameOf picks ts.length i last)) (xs.set (named ts xs L ts.length (nameOf picks ts.length i last)).toNat (rd xs (named ts xs L ts.length (nameOf picks ts.length i last)) + 1))
            (afterL (stepOf ts xs (named ts xs L ts.length (nameOf picks ts.length i last))) (named ts xs L ts.length (nameOf picks ts.length i last)) L)).map c41)
      (fun e => by rw [e, if_pos (by decide)]; simp)
      (fun n n0 n1 hc hn => by
        rw [hn, if_neg (by omega)]
        have hmo := can_more hB n n0 n1 hc
        have hlen := hB.1
        have := ih (acc ++ [⟨n, rd xs n⟩]) (i + 1) (xs.set n.toNat (rd xs n + 1)) (afterL (stepOf ts xs n) n L) n (h.step hF hB n n0 n1 hc) (hB.step n n0 n1 hmo)
          (by rw [sum_set _ _ _ (by omega), hs]; unfold rd; push_cast; omega) (by rw [List.length_append, hl]; rfl) (by push_cast; omega)
        rw [List.append_assoc] at this
        simpa [c41] using this)
      _ 0 rfl (by omega) (fun i' h => absurd h (by omega))
    refine (show ∀ r, Ev (fun k => gatepostref22_Order.l1 k ts picks acc (i : Int) (nameOf picks ts.length i last) ((0 : Nat) : Int)) r → Ev (fun k => gatepostref22_Order.l0 k ts picks acc (i : Int)) r from ?_) _ hl1
    clear hl1
    intro r hl1
    have hj2 : Ev (fun k => gatepostref22_Order.j2 k ts picks acc (i : Int) (nameOf picks ts.length i last)) r := Ev.succ (fun k => by simp only [gatepostref22_Order.j2]; rfl) hl1
    have hj1 : ∀ x7 : Int, (¬ ((i : Int) < (picks.length : Int)) → x7 = nameOf picks ts.length i last) → Ev (fun k => gatepostref22_Order.j1 k ts picks acc (i : Int) x7) r := by
      intro x7 h7
      refine Ev.succ (fun k => ?_) hj2
      simp only [gatepostref22_Order.j1]
      by_cases hip : (i : Int) < (picks.length : Int)
      · rw [if_pos hip, if_pos (by omega), if_neg (by omega)]
        have hr := tmod_range (rd picks (i : Int)) ts.length hN0
        have hnm : nameOf picks ts.length i last = (Int.tmod (rd picks (i : Int)) (ts.length : Int) + (ts.length : Int)) % (ts.length : Int) := by unfold nameOf; rw [if_pos hip]
        rw [hnm]
        generalize Int.tmod (rd picks (i : Int)) (ts.length : Int) = q at *
        by_cases hq : q < 0
        · rw [if_pos hq, wrap64_id _ (by omega) (by omega), Int.emod_eq_of_lt (by omega) (by omega)]
        · rw [if_neg hq, Int.add_emod_right, Int.emod_eq_of_lt (by omega) (by omega)]
      · rw [if_neg hip, h7 hip]
    have hnl : ¬ ((i : Int) < (picks.length : Int)) → nameOf picks ts.length i last = (last + 1) % (ts.length : Int) := fun hip => by unfold nameOf; rw [if_neg hip]
    rcases h.la with ⟨ha, hla⟩ | ⟨ha, hla, la0, la1⟩
    · refine Ev.succ (fun k => ?_) (hj1 0 (fun hip => ?_))
      · simp only [gatepostref22_Order.l0]
        rw [if_pos (by omega), if_neg (by rw [ha]; simp)]
      · rw [hnl hip, hla]; simp
    · have hal : 0 < acc.length := List.length_pos_iff.2 ha
      refine Ev.succ (fun k => ?_) (hj1 ((last + 1) % (ts.length : Int)) (fun hip => (hnl hip).symm))
      simp only [gatepostref22_Order.l0]
      rw [if_pos (by omega), if_pos (by omega), wrap64_id ((acc.length : Int) - 1) (by omega) (by omega), if_pos (by omega), if_pos (by omega), if_neg (by omega), hla, wrap64_id _ (by omega) (by omega)]
      rw [Int.tmod_eq_emod_of_nonneg (by omega)]
theorem reforder_f (ts : List (List Int)) (picks : List Int) (hp : picks.length ≤ 1000000) (hF : FewT ts) : Ev (fun k => gatepostref22_Order.f k ts picks) ((if ts.length = 0 then [] else turnsGo ts picks ts.length (total ts + 1) 0 (-1) (List.replicate ts.length 0) (fun _ => none)).map c41) := by
  unfold gatepostref22_Order.f
  by_cases h0 : ts.length = 0
  · rw [if_pos h0]
    refine Ev.succ (h := fun _ => some []) (fun k => ?_) (Ev.done _)
    simp only [gatepostref22_Order.l0]
    rw [if_neg (by omega)]
  · rw [if_neg h0]
    have hsum : ∀ n : Nat, (List.replicate n (0 : Int)).sum = 0 := by
      intro n
      induction n with
      | zero => rfl
      | succ n ih => rw [List.replicate_succ, List.sum_cons, ih]; rfl
    have hrd : ∀ n : Int, rd (List.replicate ts.length 0) n = 0 := by
      intro n
      unfold rd
      simp [List.getD_eq_getElem?_getD, List.getElem?_replicate]
      split <;> rfl
    have := order_ev picks hp hF (by omega) (total ts + 1) [] 0 (List.replicate ts.length 0) (fun _ => none) (-1) (Rel.start ts) ⟨by simp, fun n _ _ => by rw [hrd]; exact ⟨Int.le_refl _, Int.natCast_nonneg _⟩⟩ (hsum _) rfl (by push_cast; omega)
    simpa using this

/-! ### same -/
theorem same_ev (a : List S37) (hl : a.length ≤ 100000000) : ∀ m j, a.length - j = m → j ≤ a.length → Ev (fun k => gatepostlaw22_same.l0 k a (a.map c41) (j : Int)) true := by
  intro m
  induction m with
  | zero =>
    intro j hm hj
    refine Ev.succ (h := fun _ => some true) (fun k => ?_) (Ev.done _)
    simp only [gatepostlaw22_same.l0]
    rw [if_neg (by omega)]
  | succ m ih =>
    intro j hm hj
    have hj1 : wrap64 ((j : Int) + 1) = ((j + 1 : Nat) : Int) := by rw [wrap64_id _ (by omega) (by omega)]; rfl
    have hg : (a.map c41).getD j z41 = c41 (a.getD j z37) := by
      simp [List.getD_eq_getElem?_getD, List.getElem?_eq_getElem (show j < a.length by omega)]
    refine Ev.succ (fun k => ?_) (ih (j + 1) (by omega) (by omega))
    simp only [gatepostlaw22_same.l0]
    rw [if_pos (by omega), if_pos (by omega), if_pos (by rw [List.length_map]; omega), rd_T37_nat, rd_T41_nat, hg]
    rw [if_pos (show (a.getD j z37).f0 = (c41 (a.getD j z37)).f0 from rfl), if_pos (show (a.getD j z37).f1 = (c41 (a.getD j z37)).f1 from rfl), hj1]
theorem same_f (a : List S37) (hl : a.length ≤ 100000000) : Ev (fun k => gatepostlaw22_same.f k a (a.map c41)) true := by
  have := same_ev a hl _ 0 rfl (by omega)
  unfold gatepostlaw22_same.f
  simp only [List.length_map, if_true]
  simpa using this

/-! ### The reference's May and Steps -/
theorem rsteps_ev (ts : List (List Int)) (hF : FewT ts) : ∀ m j (c : Int), ts.length - j = m → j ≤ ts.length → 0 ≤ c → c ≤ 1000 * (j : Int) → Ev (fun k => gatepostref22_Steps.l0 k ts c (j : Int)) (c + (total (ts.drop j) : Int)) := by
  intro m
  have hN := hF.1
  induction m with
  | zero =>
    intro j c hm hj c0 c1
    obtain rfl : j = ts.length := by omega
    refine Ev.succ (h := fun _ => some c) (fun k => ?_) ?_
    · simp only [gatepostref22_Steps.l0]; rw [if_neg (by omega)]
    · rw [List.drop_length]; simp only [total, List.map_nil, List.sum_nil, Int.natCast_zero, Int.add_zero]; exact Ev.done c
  | succ m ih =>
    intro j c hm hj c0 c1
    have hl : (ts.getD j []).length ≤ 1000 := by
      have := (hF.2 _ (rd_L1_mem ts (j : Int) (by omega) (by omega))).1
      rwa [rd_L1_nat] at this
    refine Ev.succ (h := fun k => gatepostref22_Steps.l0 k ts (c + ((ts.getD j []).length : Int)) ((j + 1 : Nat) : Int)) (fun k => ?_) ?_
    · simp only [gatepostref22_Steps.l0]
      rw [if_pos (by omega), if_pos (by omega), rd_L1_nat, wrap64_id _ (by omega) (by omega), wrap64_id _ (by omega) (by omega)]
      rfl
    · have := ih (j + 1) (c + ((ts.getD j []).length : Int)) (by omega) (by omega) (by omega) (by push_cast; omega)
      rw [drop_getD ts [] j (by omega)]
      have e : (c + ((total (ts.getD j [] :: ts.drop (j + 1)) : Nat) : Int)) = c + ((ts.getD j []).length : Int) + ((total (ts.drop (j + 1)) : Nat) : Int) := by
        unfold total
        simp only [List.map_cons, List.sum_cons]
        push_cast; omega
      rw [e]; exact this
theorem rsteps_f (ts : List (List Int)) (hF : FewT ts) : Ev (fun k => gatepostref22_Steps.f k ts) (total ts : Int) := by
  have := rsteps_ev ts hF _ 0 0 rfl (by omega) (by omega) (by omega)
  simpa [gatepostref22_Steps.f] using this
end Go.Proofs.Ytglafngeeggeeaa
