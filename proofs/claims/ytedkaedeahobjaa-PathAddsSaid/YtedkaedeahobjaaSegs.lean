/- Plain Lean: Few, Same, adding. -/
import Derived.Test.YtedkaedeahobjaaTell
namespace Go.Proofs.Ytedkaedeahobjaa
open Go.RowKit Go.Proofs.Ytedkaedeahobjaa.PPth Go.Proofs.YtedkaedeahobjaaW.PrintWords
set_option linter.unusedVariables false
set_option linter.unusedSimpArgs false

theorem drop_rdOf (l : List ByteArray) (i : Nat) (h : i < l.length) : l.drop i = rdOf ByteArray.empty l (i : Int) :: l.drop (i + 1) := by
  rw [List.drop_eq_getElem_cons h]
  unfold rdOf
  simp [List.getD_eq_getElem?_getD, List.getElem?_eq_getElem h]
/-! ### 1. Few -/
def Low (l : List ByteArray) : Prop := ∀ x ∈ l, x.size ≤ 60
instance (l : List ByteArray) : Decidable (Low l) := inferInstanceAs (Decidable (∀ x ∈ l, x.size ≤ 60))
def few (l : List ByteArray) : Bool := decide (l.length ≤ 20 ∧ Low l)
theorem few_ev (l : List ByteArray) : ∀ m i, min l.length 21 - i = m → i ≤ min l.length 21 → Ev (fun k => gatepostref01_Few.l0 k l (i : Int)) (decide (l.length ≤ 20 ∧ Low (l.drop i))) := by
  intro m
  induction m with
  | zero =>
    intro i hm hi
    have hj : Ev (fun k => gatepostref01_Few.j1 k l (i : Int) false) (decide ((l.length : Int) ≤ 20)) := by
      refine Ev.succ (h := fun _ => some (decide ((l.length : Int) ≤ 20))) (fun k => ?_) (Ev.done _)
      simp only [gatepostref01_Few.j1]; rfl
    have he : decide ((l.length : Int) ≤ 20) = decide (l.length ≤ 20 ∧ Low (l.drop i)) := by
      apply decide_eq_decide.2
      constructor
      · intro h
        refine ⟨by omega, fun x hx => ?_⟩
        rw [List.drop_eq_nil_of_le (by omega)] at hx
        cases hx
      · intro h; have := h.1; omega
    rw [he] at hj
    refine Ev.succ (h := fun k => gatepostref01_Few.j1 k l (i : Int) false) (fun k => ?_) hj
    simp only [gatepostref01_Few.l0]
    by_cases hlt : (i : Int) < (l.length : Int)
    · rw [if_pos hlt, decide_eq_false (by omega)]
    · rw [if_neg hlt]
  | succ m ih =>
    intro i hm hi
    have hil : i < l.length := by omega
    rw [drop_rdOf l i hil]
    have hi1 := ih (i + 1) (by omega) (by omega)
    have hw := wrap64_id ((i : Int) + 1) (by omega) (by omega)
    refine Ev.succ (h := fun k => gatepostref01_Few.j1 k l (i : Int) true) (fun k => ?_) ?_
    · simp only [gatepostref01_Few.l0]
      rw [if_pos (by omega), decide_eq_true (by omega)]
    · by_cases hs : ((rdOf ByteArray.empty l (i : Int)).size : Int) > 60
      · refine Ev.succ (h := fun _ => some false) (fun k => ?_) ?_
        · simp only [gatepostref01_Few.j1]
          rw [if_pos trivial, if_pos (by omega), if_pos (by omega), if_pos hs]
        · rw [decide_eq_false (fun h => by have := h.2 _ List.mem_cons_self; omega)]; exact Ev.done _
      · refine Ev.succ (h := fun k => gatepostref01_Few.l0 k l (((i + 1 : Nat)) : Int)) (fun k => ?_) ?_
        · simp only [gatepostref01_Few.j1]
          rw [if_pos trivial, if_pos (by omega), if_pos (by omega), if_neg hs, hw]; rfl
        · have e : decide (l.length ≤ 20 ∧ Low (rdOf ByteArray.empty l (i : Int) :: l.drop (i + 1))) = decide (l.length ≤ 20 ∧ Low (l.drop (i + 1))) := by
            apply decide_eq_decide.2
            constructor
            · exact fun h => ⟨h.1, fun x hx => h.2 x (List.mem_cons_of_mem _ hx)⟩
            · refine fun h => ⟨h.1, fun x hx => ?_⟩
              rcases List.mem_cons.1 hx with rfl | hx
              · omega
              · exact h.2 x hx
          rw [e]; exact hi1
theorem few_f (l : List ByteArray) : Ev (fun k => gatepostref01_Few.f k l) (few l) := by
  have h := few_ev l _ 0 rfl (by omega)
  simpa [gatepostref01_Few.f, few] using h
/-! ### 2. Same -/
theorem same_ev (l : List ByteArray) (hl : l.length ≤ 1000000) : ∀ m i, l.length - i = m → i ≤ l.length → Ev (fun k => gatepostref01_Same.l0 k l l (i : Int)) true := by
  intro m
  induction m with
  | zero =>
    intro i hm hi
    refine Ev.succ (h := fun _ => some true) (fun k => ?_) (Ev.done _)
    simp only [gatepostref01_Same.l0]; rw [if_neg (by omega)]
  | succ m ih =>
    intro i hm hi
    have hi1 := ih (i + 1) (by omega) (by omega)
    have hw := wrap64_id ((i : Int) + 1) (by omega) (by omega)
    refine Ev.succ (h := fun k => gatepostref01_Same.l0 k l l (((i + 1 : Nat)) : Int)) (fun k => ?_) hi1
    simp only [gatepostref01_Same.l0]
    rw [if_pos (by omega), if_pos (by omega), if_pos (by omega), if_pos trivial, hw]; rfl
theorem same_f (l : List ByteArray) (hl : l.length ≤ 1000000) : Ev (fun k => gatepostref11_Same.f k l l) true := by
  have h := same_ev l hl _ 0 rfl (by omega)
  refine Ev.of (fun k => by unfold gatepostref11_Same.f; rfl) (Ev.bind (g := fun k => gatepostref01_Same.f k l l) (h := fun _ t => some t) (a := true) ?_ (Ev.done _))
  refine Ev.of (fun k => by unfold gatepostref01_Same.f; rw [if_pos rfl]; rfl) h
/-! ### 3. Adding -/
theorem add_f (a0 : ByteArray) (l : List ByteArray) (s : ByteArray) (b : Bool) (hl : l.length ≤ 1000000000) (hs : s.size ≤ 1000000000) : path_Add.f a0 l s b = some (addL a0 l s b) := by unfold path_Add.f; rw [if_pos ⟨hl, hs⟩]
theorem shorten_f (a0 : ByteArray) (l : List ByteArray) (hl : l.length ≤ 1000000000) : path_Shorten.f a0 l = some (shL a0 l) := by unfold path_Shorten.f; rw [if_pos hl]
theorem addL_len (a0 : ByteArray) (l : List ByteArray) (s : ByteArray) (b : Bool) : (addL a0 l s b).length ≤ l.length + 1 := by
  have := shL_len a0 l
  unfold addL
  repeat' split
  all_goals (try simp only [List.length_append, List.length_singleton])
  all_goals (try omega)
end Go.Proofs.Ytedkaedeahobjaa
