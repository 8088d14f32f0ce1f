/- Plain Lean: the laws of 'sched' as the printed functions say them: ends, and turns in turn. -/
import Derived.Test.YtglafngeeggeeaaLaw2
namespace Go.Proofs.Ytglafngeeggeeaa
open Go.RowKit Go.Proofs.YtglafngeeggeeaaW.PrintWords Go.Proofs.Ytglafngeeggeeaa.PSch
set_option linter.unusedVariables false
set_option linter.unusedSimpArgs false

/-! ### All come to their ends -/
theorem go_all (ts : List (List Int)) (picks : List Int) (hF : FewT ts) (hN0 : 0 < ts.length) : ∀ (f i : Nat) (last : Int) (xs : List Int) (L : Int → Option Int) (H : Int → Int), Inv ts xs L H → InB ts ts.length xs → (total ts : Int) < xs.sum + (f : Int) →
    ((turnsGo ts picks ts.length f i last xs L).length : Int) = (total ts : Int) - xs.sum := by
  intro f
  induction f with
  | zero =>
    intro i last xs L H h hB hf
    have := (hB.sum_le rfl).1
    omega
  | succ f ih =>
    intro i last xs L H h hB hf
    simp only [turnsGo]
    rcases named_cases ts xs L ts.length hN0 (nameOf picks ts.length i last) with hz | ⟨z0, z1, zc⟩
    · rw [hz, if_pos (by decide)]
      have hno := named_neg ts xs L ts.length _ hz hN0
      have := sum_full hB (fun n n0 n1 => by
        rcases Int.lt_or_le (rd xs n) ((rd_L1 ts n).length : Int) with h3 | h3
        · obtain ⟨m, m0, m1, hm⟩ := h.runs hB n n0 n1 h3
          rw [hno m m0 m1] at hm
          cases hm
        · exact h3)
      simp only [List.length_nil]
      omega
    · generalize named ts xs L ts.length (nameOf picks ts.length i last) = z at *
      rw [if_neg (by omega)]
      obtain ⟨H', hI⟩ := h.step hF hB z z0 z1 zc
      have hmo := can_more hB z z0 z1 zc
      have hlen := hB.1
      have hs : (xs.set z.toNat (rd xs z + 1)).sum = xs.sum + 1 := by
        rw [sum_set _ _ _ (by omega)]
        unfold rd
        omega
      have := ih (i + 1) z _ _ H' hI (hB.step z z0 z1 hmo) (by rw [hs]; omega)
      rw [hs] at this
      simp only [List.length_cons]
      push_cast
      omega
theorem turns_all (ts : List (List Int)) (picks : List Int) (hF : FewT ts) (hm : may ts = true) : ((turnsOf ts picks).length : Int) = (total ts : Int) := by
  unfold turnsOf
  by_cases h0 : ts.length = 0
  · rw [if_pos h0]
    have : ts = [] := List.eq_nil_of_length_eq_zero h0
    subst this
    rfl
  · rw [if_neg h0]
    have := go_all ts picks hF (by omega) (total ts + 1) 0 (-1) _ _ _ (Inv.start hm) (InB.start ts) (by rw [sum_zeros]; push_cast; omega)
    rw [sum_zeros] at this
    omega

/-! ### SchedTurns -/
theorem turns_ev (ts : List (List Int)) (picks : List Int) (hF : FewT ts) (hN0 : 0 < ts.length) (l : List S37) (hl : l.length ≤ 100000000) (r : Bool) (hend : ∀ x7, Ev (fun k => gatepostlaw22_SchedTurns.l0 k ts true l x7 (l.length : Int)) r) :
    ∀ (f i : Nat) (last : Int) (xs : List Int) (L : Int → Option Int) (pre : List S37), InB ts ts.length xs → l = pre ++ turnsGo ts picks ts.length f i last xs L → Ev (fun k => gatepostlaw22_SchedTurns.l0 k ts true l xs (pre.length : Int)) r := by
  intro f
  induction f with
  | zero =>
    intro i last xs L pre hB he
    simp only [turnsGo, List.append_nil] at he
    subst he
    exact hend xs
  | succ f ih =>
    intro i last xs L pre hB he
    simp only [turnsGo] at he
    rcases named_cases ts xs L ts.length hN0 (nameOf picks ts.length i last) with hz | ⟨z0, z1, zc⟩
    · rw [hz, if_pos (by decide), List.append_nil] at he
      subst he
      exact hend xs
    · generalize named ts xs L ts.length (nameOf picks ts.length i last) = z at *
      rw [if_neg (by omega)] at he
      have hmo := can_more hB z z0 z1 zc
      have hlen := hB.1
      have hget : l.getD pre.length z37 = ⟨z, rd xs z⟩ := by
        rw [he, List.getD_eq_getElem?_getD, List.getElem?_append_right (Nat.le_refl _)]
        simp
      have hplt : pre.length < l.length := by rw [he]; simp
      have hk := (hF.2 _ (rd_L1_mem ts z z0 z1)).1
      have hm1 := hmo.1
      have hm2 := hmo.2
      have := ih (i + 1) z (xs.set z.toNat (rd xs z + 1)) (afterL (stepOf ts xs z) z L) (pre ++ [⟨z, rd xs z⟩]) (hB.step z z0 z1 hmo) (by rw [List.append_assoc]; exact he)
      rw [List.length_append, List.length_singleton] at this
      refine Ev.succ (fun k => ?_) this
      simp only [gatepostlaw22_SchedTurns.l0]
      rw [if_pos (by omega), if_pos (by omega), rd_T37_nat, hget]
      dsimp only
      rw [if_neg (by omega), if_neg (by omega), if_pos z0, if_pos (by omega), if_pos rfl, if_pos z1, if_neg (by omega), wrap64_id _ (by omega) (by omega), wrap64_id _ (by omega) (by omega)]
      rfl
theorem pureTurns (l0 : List (List Int)) (l1 : List Int) (hw : ∀ t ∈ l0, ∀ x ∈ t, wf64 x) : Ev (fun k => gatepostlaw22_SchedTurns.f k l0 l1) true := by
  unfold gatepostlaw22_SchedTurns.f
  refine Ev.bind awake_f ?_
  obtain ⟨b, hb, hb2⟩ := few_f l0 hw
  refine Ev.bind hb ?_
  have hout : Ev (fun k => gatepostlaw22_SchedTurns.j0 k l0 l1 true true) true := by
    refine Ev.succ (h := fun _ => some true) (fun k => ?_) (Ev.done true)
    simp only [gatepostlaw22_SchedTurns.j0]; exact if_pos trivial
  by_cases hbt : b = true
  · simp only [if_pos hbt]
    have hF := hb2 hbt
    by_cases hp : (l1.length : Int) > 100
    · rw [decide_eq_true hp]; exact hout
    · rw [decide_eq_false hp]
      have hp' : l1.length ≤ 1000000 := by omega
      have hN := hF.1
      have hlen := turns_len l0 l1 hF
      have hend : ∀ x7, Ev (fun k => gatepostlaw22_SchedTurns.l0 k l0 true (turnsOf l0 l1) x7 ((turnsOf l0 l1).length : Int)) true := by
        intro x7
        refine Ev.succ (h := fun k => (sched_May.f k l0).bind fun t216 => (if t216 = true then ((sched_Steps.f k l0).bind fun t217 => (some (((turnsOf l0 l1).length : Int) == t217))) else (some true))) (fun k => ?_) ?_
        · simp only [gatepostlaw22_SchedTurns.l0]
          rw [if_neg (by omega)]; exact if_pos trivial
        · refine Ev.bind (may_f l0 hF) ?_
          by_cases hm : may l0 = true
          · simp only [if_pos hm]
            refine Ev.bind (steps_f l0 hF) ?_
            rw [turns_all l0 l1 hF hm, beq_self_eq_true]
            exact Ev.done true
          · simp only [if_neg hm]
            exact Ev.done true
      have hmain : Ev (fun k => gatepostlaw22_SchedTurns.l0 k l0 true (turnsOf l0 l1) (List.replicate l0.length 0) 0) true := by
        by_cases h0 : l0.length = 0
        · have e : turnsOf l0 l1 = [] := by unfold turnsOf; rw [if_pos h0]
          have := hend (List.replicate l0.length 0)
          rw [e] at this ⊢
          exact this
        · have := turns_ev l0 l1 hF (by omega) (turnsOf l0 l1) hlen true hend (total l0 + 1) 0 (-1) (List.replicate l0.length 0) (fun _ => none) [] (InB.start l0) (by unfold turnsOf; rw [if_neg h0]; rfl)
          exact this
      refine Ev.succ (fun k => ?_) hmain
      simp only [gatepostlaw22_SchedTurns.j0]
      rw [if_neg (by simp), order_f l0 l1 hF hp']
      simp only [Option.bind_some]
      rw [if_pos (by omega), if_pos (by omega), Int.toNat_natCast]
      rfl
  · simp only [if_neg hbt]
    exact hout

/-! ### Whole, SchedEnds -/
theorem mayT_append : ∀ (a : List Int) (h : Int) (b : List Int), mayT h a = true → mayT 0 b = true → mayT h (a ++ b) = true := by
  intro a
  induction a with
  | nil =>
    intro h b ha hb
    simp only [mayT, beq_iff_eq] at ha
    subst ha
    exact hb
  | cons s a ih =>
    intro h b ha hb
    simp only [List.cons_append, mayT] at ha ⊢
    split
    · rename_i e; rw [if_pos e] at ha; exact ih _ _ ha hb
    · rename_i e
      rw [if_neg e] at ha
      split
      · rename_i e2; rw [if_pos e2] at ha; exact ih _ _ ha hb
      · rename_i e2
        rw [if_neg e2] at ha
        split
        · rename_i e3; rw [if_pos e3] at ha; exact ih _ _ ha hb
        · rename_i e3; rw [if_neg e3] at ha; cases ha
/-- A task of Whole's. -/
def PT (t : List Int) (n : Nat) : Prop := t.length ≤ n ∧ mayT 0 t = true ∧ ∀ x ∈ t, -3 ≤ x ∧ x ≤ 3
theorem rd_L7_nat (l : List (List Int)) (i : Nat) : rd_L7 l (i : Int) = l.getD i [] := by unfold rd_L7; simp
theorem PT.push0 {t : List Int} {n : Nat} (h : PT t n) : PT (t ++ [0]) (n + 3) :=
  ⟨by rw [List.length_append, List.length_singleton]; have := h.1; omega, mayT_append t 0 [0] h.2.1 (by decide), fun x hx => by
    rcases List.mem_append.1 hx with h1 | h1
    · exact h.2.2 x h1
    · rw [List.mem_singleton.1 h1]; omega⟩
theorem PT.push3 {t : List Int} {n : Nat} (h : PT t n) (q : Int) (q0 : 0 < q) (q1 : q ≤ 3) : PT (t ++ [q, 0, wrap64 (-q)]) (n + 3) := by
  have hq : wrap64 (-q) = -q := wrap64_id _ (by omega) (by omega)
  rw [hq]
  refine ⟨by rw [List.length_append]; have := h.1; simp; omega, mayT_append t 0 _ h.2.1 ?_, fun x hx => ?_⟩
  · simp only [mayT]
    have h2 : q = wrap64 (- -q) := by unfold wrap64; omega
    rw [if_neg (by omega), if_pos ⟨q0, trivial⟩, if_pos trivial, if_neg (by omega), if_neg (by omega), if_pos ⟨by omega, h2⟩]
    rfl
  · rcases List.mem_append.1 hx with h1 | h1
    · exact h.2.2 x h1
    · simp only [List.mem_cons, List.not_mem_nil, or_false] at h1
      omega
theorem whole_l1 (raw : List (List Int)) (hr : ∀ t ∈ raw, ∀ x ∈ t, 0 ≤ x ∧ x ≤ 255) (x3 : List (List Int)) (hx3 : x3.length ≤ 5) (i : Nat) (hi : i < raw.length) (hi5 : i < 5) :
    ∀ m j t, 6 - j = m → j ≤ 6 → PT t (3 * j) → ∃ t', PT t' 18 ∧ ∀ r, Ev (fun k => gatepostref22_Whole.l0 k raw (x3 ++ [t']) ((i + 1 : Nat) : Int)) r → Ev (fun k => gatepostref22_Whole.l1 k raw x3 (i : Int) t (j : Int)) r := by
  intro m
  have hi1 : wrap64 ((i : Int) + 1) = ((i + 1 : Nat) : Int) := by rw [wrap64_id _ (by omega) (by omega)]; rfl
  have i0 : 0 ≤ (i : Int) := Int.natCast_nonneg _
  have i1 : (i : Int) < (raw.length : Int) := by omega
  have hx3' : x3.length < 5864062014805 := by omega
  have hout : ∀ t (j : Int) r, Ev (fun k => gatepostref22_Whole.l0 k raw (x3 ++ [t]) ((i + 1 : Nat) : Int)) r → Ev (fun k => gatepostref22_Whole.j3 k raw x3 (i : Int) t j false) r := by
    intro t j r h
    refine Ev.succ (fun k => ?_) h
    simp only [gatepostref22_Whole.j3]
    rw [if_neg (by simp), if_pos hx3', hi1]
  have hmem : raw.getD i [] ∈ raw := by
    rw [List.getD_eq_getElem?_getD, List.getElem?_eq_getElem hi]; exact List.getElem_mem _
  have hrr := hr _ hmem
  have hrd : rd_L7 raw (i : Int) = raw.getD i [] := rd_L7_nat raw i
  generalize raw.getD i [] = u at *
  induction m with
  | zero =>
    intro j t hm hj hP
    obtain rfl : j = 6 := by omega
    refine ⟨t, hP, fun r h => ?_⟩
    refine Ev.succ (fun k => ?_) (hout t ((6 : Nat) : Int) r h)
    simp only [gatepostref22_Whole.l1]
    rw [if_pos i0, if_pos i1]
    split
    · rfl
    · rfl
  | succ m ih =>
    intro j t hm hj hP
    have hj1 : wrap64 ((j : Int) + 1) = ((j + 1 : Nat) : Int) := by rw [wrap64_id _ (by omega) (by omega)]; rfl
    by_cases hju : j < u.length
    · have hv := hrr (u.getD j 0) (by rw [List.getD_eq_getElem?_getD, List.getElem?_eq_getElem hju]; exact List.getElem_mem _)
      have hl := hP.1
      have a3 : (j : Int) < (u.length : Int) := by omega
      have a4 : 0 ≤ (j : Int) := Int.natCast_nonneg _
      have a5 : (j : Int) < 6 := by omega
      have hj3 : ∀ r, Ev (fun k => gatepostref22_Whole.j3 k raw x3 (i : Int) t (j : Int) true) r → Ev (fun k => gatepostref22_Whole.l1 k raw x3 (i : Int) t (j : Int)) r := by
        intro r h
        refine Ev.succ (fun k => ?_) h
        simp only [gatepostref22_Whole.l1]
        rw [if_pos i0, if_pos i1, hrd, if_pos a3, decide_eq_true a5]
      have hq : Int.tmod (wrap64 (u.getD j 0)) 4 = (u.getD j 0) % 4 := by
        rw [wrap64_id _ (by omega) (by omega)]
        exact Int.tmod_eq_emod_of_nonneg hv.1
      have hq0 : 0 ≤ (u.getD j 0) % 4 := Int.emod_nonneg _ (by decide)
      have hq1 : (u.getD j 0) % 4 < 4 := Int.emod_lt_of_pos _ (by decide)
      have hg : rd u (j : Int) = u.getD j 0 := rd_nat u j
      generalize (u.getD j 0) % 4 = q at *
      by_cases q0 : q = 0
      · obtain ⟨t', hP', hk⟩ := ih (j + 1) (t ++ [0]) (by omega) (by omega) (by rw [Nat.mul_add]; exact hP.push0)
        refine ⟨t', hP', fun r h => hj3 r ?_⟩
        refine Ev.succ (fun k => ?_) (hk r h)
        simp only [gatepostref22_Whole.j3]
        rw [if_pos trivial, if_pos i0, if_pos i1, if_pos a4, hrd, if_pos a3, hg, hq, if_pos q0, if_pos (by omega), hj1]
      · obtain ⟨t', hP', hk⟩ := ih (j + 1) (t ++ [q, 0, wrap64 (-q)]) (by omega) (by omega) (by rw [Nat.mul_add]; exact hP.push3 q (by omega) (by omega))
        refine ⟨t', hP', fun r h => hj3 r ?_⟩
        refine Ev.succ (fun k => ?_) (hk r h)
        simp only [gatepostref22_Whole.j3]
        rw [if_pos trivial, if_pos i0, if_pos i1, if_pos a4, hrd, if_pos a3, hg, hq, if_neg q0, Option.bind_some, if_pos (by simp; omega), hj1]
    · refine ⟨t, ⟨by have := hP.1; omega, hP.2⟩, fun r h => ?_⟩
      refine Ev.succ (fun k => ?_) (hout t (j : Int) r h)
      simp only [gatepostref22_Whole.l1]
      rw [if_pos i0, if_pos i1, hrd, if_neg (by omega)]
theorem whole_l0 (raw : List (List Int)) (hr : ∀ t ∈ raw, ∀ x ∈ t, 0 ≤ x ∧ x ≤ 255) : ∀ (m i : Nat) (x3 : List (List Int)), 5 - i = m → i ≤ 5 → x3.length = i → (∀ t ∈ x3, PT t 18) → ∃ ts, ts.length ≤ 5 ∧ (∀ t ∈ ts, PT t 18) ∧ Ev (fun k => gatepostref22_Whole.l0 k raw x3 (i : Int)) ts := by
  intro m
  have hout : ∀ (x3 : List (List Int)) (i : Int), Ev (fun k => gatepostref22_Whole.j1 k raw x3 i false) x3 := by
    intro x3 i
    refine Ev.succ (h := fun _ => some x3) (fun k => ?_) (Ev.done _)
    simp only [gatepostref22_Whole.j1]
    rw [if_neg (by simp)]
  induction m with
  | zero =>
    intro i x3 hm hi hl hP
    obtain rfl : i = 5 := by omega
    refine ⟨x3, by omega, hP, Ev.succ (fun k => ?_) (hout x3 ((5 : Nat) : Int))⟩
    simp only [gatepostref22_Whole.l0]
    split
    · rfl
    · rfl
  | succ m ih =>
    intro i x3 hm hi hl hP
    by_cases hlt : i < raw.length
    · obtain ⟨t', hP', hk⟩ := whole_l1 raw hr x3 (by omega) i hlt (by omega) _ 0 [] rfl (by omega) ⟨by simp, rfl, fun x hx => by cases hx⟩
      obtain ⟨ts, h1, h2, h3⟩ := ih (i + 1) (x3 ++ [t']) (by omega) (by omega) (by rw [List.length_append, hl]; rfl) (fun t ht => by
        rcases List.mem_append.1 ht with h | h
        · exact hP t h
        · rw [List.mem_singleton.1 h]; exact hP')
      refine ⟨ts, h1, h2, ?_⟩
      have hl1 := hk ts h3
      have hj1 : Ev (fun k => gatepostref22_Whole.j1 k raw x3 (i : Int) true) ts := by
        refine Ev.succ (fun k => ?_) hl1
        simp only [gatepostref22_Whole.j1]
        rw [if_pos trivial]; rfl
      refine Ev.succ (fun k => ?_) hj1
      simp only [gatepostref22_Whole.l0]
      rw [if_pos (by omega), decide_eq_true (by omega : (i : Int) < 5)]
    · refine ⟨x3, by omega, hP, Ev.succ (fun k => ?_) (hout x3 (i : Int))⟩
      simp only [gatepostref22_Whole.l0]
      rw [if_neg (by omega)]
theorem whole_f (raw : List (List Int)) (hr : ∀ t ∈ raw, ∀ x ∈ t, 0 ≤ x ∧ x ≤ 255) : ∃ ts, (FewT ts ∧ may ts = true ∧ ts.length ≤ 5 ∧ (∀ t ∈ ts, PT t 18)) ∧ Ev (fun k => gatepostref22_Whole.f k raw) ts := by
  obtain ⟨ts, h1, h2, h3⟩ := whole_l0 raw hr _ 0 [] rfl (by omega) rfl (fun t ht => by cases ht)
  refine ⟨ts, ⟨⟨by omega, fun t ht => ⟨by have := (h2 t ht).1; omega, fun x hx => ?_⟩⟩, List.all_eq_true.2 (fun t ht => (h2 t ht).2.1), h1, h2⟩, by simpa [gatepostref22_Whole.f] using h3⟩
  have := (h2 t ht).2.2 x hx
  rw [wf64_iff]; omega
theorem pureEnds (l0 : List (List Int)) (l1 : List Int) (hr : ∀ t ∈ l0, ∀ x ∈ t, 0 ≤ x ∧ x ≤ 255) : Ev (fun k => gatepostlaw22_SchedEnds.f k l0 l1) true := by
  unfold gatepostlaw22_SchedEnds.f
  refine Ev.bind awake_f ?_
  by_cases hp : (l1.length : Int) > 100
  · simp only [if_pos hp]
    exact Ev.done true
  · simp only [if_neg hp, if_true]
    obtain ⟨ts, ⟨hF, hm, _, _⟩, hts⟩ := whole_f l0 hr
    refine Ev.bind hts ?_
    refine Ev.bind (may_f ts hF) ?_
    simp only [if_pos hm]
    rw [order_f ts l1 hF (by omega)]
    simp only [Option.bind_some]
    refine Ev.bind (steps_f ts hF) ?_
    have := turns_all ts l1 hF hm
    unfold turnsOf at this
    rw [this, beq_self_eq_true]
    exact Ev.done true
end Go.Proofs.Ytglafngeeggeeaa
