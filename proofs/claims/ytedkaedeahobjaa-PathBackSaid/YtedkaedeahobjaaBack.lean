/- Plain Lean: the law PathBack. -/
import Derived.Test.YtedkaedeahobjaaSegs
namespace Go.Proofs.Ytedkaedeahobjaa
open Go.RowKit Go.Proofs.Ytedkaedeahobjaa.PPth Go.Proofs.YtedkaedeahobjaaW.PrintWords
set_option linter.unusedVariables false
set_option linter.unusedSimpArgs false

theorem add_dotdot (a0 : ByteArray) (l : List ByteArray) : addL a0 l (⟨#[46, 46]⟩ : ByteArray) false = shL a0 l := by
  unfold addL
  rw [if_pos (show dots (⟨#[46, 46]⟩ : ByteArray) = true from rfl)]
  rfl
theorem add_onedot (a0 : ByteArray) (l : List ByteArray) : addL a0 l (⟨#[46]⟩ : ByteArray) false = l := by
  unfold addL
  rw [if_neg (show ¬ dots (⟨#[46]⟩ : ByteArray) = true by decide), if_pos (show dot (⟨#[46]⟩ : ByteArray) = true from rfl)]
  rfl
theorem shL_snoc (a0 : ByteArray) (l : List ByteArray) (s : ByteArray) (h : ¬ (a0.toList = fileL ∧ l.length = 0 ∧ drv s = true)) : shL a0 (l ++ [s]) = l := by
  unfold shL
  rw [if_neg]
  · rw [List.length_append, List.length_singleton, Nat.add_sub_cancel, List.take_left]
  · unfold stays
    rw [decide_eq_false]
    · decide
    · rintro (h0 | ⟨hf, h1, hd, _⟩)
      · rw [List.length_append, List.length_singleton] at h0; omega
      · rw [List.length_append, List.length_singleton] at h1
        obtain rfl : l = [] := List.length_eq_zero_iff.1 (by omega)
        exact h ⟨hf, rfl, hd⟩
theorem back_j0 (a0 : ByteArray) (l : List ByteArray) (s : ByteArray) (hl : l.length ≤ 20) (hs : s.size ≤ 60) (hd : dot s = false) (hdd : dots s = false) :
    Ev (fun k => gatepostlaw11_PathBack.j0 k a0 l s true false) true := by
  have hlen : (addL a0 l s true).length = l.length + 1 := by
    unfold addL
    rw [if_neg (by rw [hdd]; decide), if_neg (by rw [hd]; decide)]
    split <;> rw [List.length_append, List.length_singleton]
  have hw : wrap64 ((l.length : Int) + 1) = (l.length : Int) + 1 := wrap64_id _ (by omega) (by omega)
  have hsame := same_f l (by omega)
  have hb : ¬ (a0.toList = fileL ∧ l.length = 0 ∧ drv s = true) → addL a0 (addL a0 l s true) (⟨#[46, 46]⟩ : ByteArray) false = l := by
    intro hn
    rw [add_dotdot]
    have : addL a0 l s true = l ++ [s] := by
      unfold addL
      rw [if_neg (by rw [hdd]; decide), if_neg (by rw [hd]; decide), if_neg hn]
    rw [this]
    exact shL_snoc a0 l s hn
  refine Ev.succ (h := fun k => (path_Add.f a0 l s true).bind fun t148 => ((path_Add.f a0 t148 (⟨#[46, 46]⟩ : ByteArray) false).bind fun t151 => ((path_Add.f a0 l (⟨#[46]⟩ : ByteArray) false).bind fun t154 => (if a0.toList = ([102, 105, 108, 101] : List UInt8) then (if (l.length : Int) = 0 then ((path_Drive.f s).bind fun t157 => (if true = true then (if (t148.length : Int) = (wrap64 ((l.length : Int) + 1)) then (if t157 = true then ((gatepostref11_Same.f k t154 l).bind fun t158 => (some t158)) else ((gatepostref11_Same.f k t151 l).bind fun t159 => (if t159 = true then ((gatepostref11_Same.f k t154 l).bind fun t160 => (some t160)) else (some false)))) else (some false)) else (some false))) else (if true = true then (if (t148.length : Int) = (wrap64 ((l.length : Int) + 1)) then ((gatepostref11_Same.f k t151 l).bind fun t161 => (if t161 = true then ((gatepostref11_Same.f k t154 l).bind fun t162 => (some t162)) else (some false))) else (some false)) else (some false))) else (if true = true then (if (t148.length : Int) = (wrap64 ((l.length : Int) + 1)) then ((gatepostref11_Same.f k t151 l).bind fun t163 => (if t163 = true then ((gatepostref11_Same.f k t154 l).bind fun t164 => (some t164)) else (some false))) else (some false)) else (some false))))))
    (fun k => by simp only [gatepostlaw11_PathBack.j0]; rfl) ?_
  refine Ev.bind1 (add_f _ _ _ _ (by omega) (by omega)) (Ev.bind1 (add_f _ _ _ _ (by omega) (by decide)) (Ev.bind1 (add_f _ _ _ _ (by omega) (by decide)) ?_))
  rw [add_onedot, hlen, hw]
  have two : Ev (fun k => (gatepostref11_Same.f k l l).bind fun t161 => (if t161 = true then ((gatepostref11_Same.f k l l).bind fun t162 => (some t162)) else (some false))) true :=
    Ev.bind hsame (Ev.yes rfl (Ev.bind hsame (Ev.done _)))
  by_cases hf : a0.toList = fileL
  · refine Ev.yes hf ?_
    by_cases h0 : (l.length : Int) = 0
    · refine Ev.yes h0 (Ev.bind1 (a := drv s) rfl (Ev.yes rfl (Ev.yes (by omega) ?_)))
      by_cases hv : drv s = true
      · exact Ev.yes hv (Ev.bind hsame (Ev.done _))
      · refine Ev.no hv ?_
        rw [hb (fun h => hv h.2.2)]
        exact two
    · refine Ev.no h0 (Ev.yes rfl (Ev.yes (by omega) ?_))
      rw [hb (fun h => h0 (by omega))]
      exact two
  · refine Ev.no hf (Ev.yes rfl (Ev.yes (by omega) ?_))
    rw [hb (fun h => hf h.1)]
    exact two
theorem back_end (a0 : ByteArray) (l : List ByteArray) (s : ByteArray) : Ev (fun k => gatepostlaw11_PathBack.j0 k a0 l s true true) true :=
  Ev.succ (h := fun _ => some true) (fun k => by simp only [gatepostlaw11_PathBack.j0]; rfl) (Ev.done _)
theorem back_pure (a0 : ByteArray) (l : List ByteArray) (s : ByteArray) : ∃ k, gatepostlaw11_PathBack.f k a0 l s = some true := by
  apply Ev.at
  unfold gatepostlaw11_PathBack.f
  refine Ev.bind1 awake_f (Ev.bind (few_f l) ?_)
  by_cases hf : few l = true
  · rw [hf]
    refine Ev.yes rfl ?_
    by_cases h0 : (a0.size : Int) > 60
    · exact Ev.yes h0 (back_end a0 l s)
    refine Ev.no h0 ?_
    by_cases h1 : (s.size : Int) > 60
    · exact Ev.yes h1 (back_end a0 l s)
    refine Ev.no h1 (Ev.bind1 (dot_f s (by omega)) ?_)
    by_cases hd : dot s = true
    · exact Ev.yes hd (back_end a0 l s)
    refine Ev.no hd (Ev.bind1 (dots_f s (by omega)) ?_)
    by_cases hdd : dots s = true
    · rw [hdd]; exact back_end a0 l s
    · rw [Bool.eq_false_iff.2 hdd]
      exact back_j0 a0 l s (of_decide_eq_true hf).1 (by omega) (Bool.eq_false_iff.2 hd) (Bool.eq_false_iff.2 hdd)
  · rw [Bool.eq_false_iff.2 hf]
    exact Ev.no (by decide) (back_end a0 l s)
end Go.Proofs.Ytedkaedeahobjaa
