/- Plain Lean: the reference's Add (of a path that is only read) and Text. -/
import Derived.Test.YtedkaedeahobjaaSegs
import Derived.Test.YtedkaedeahobjaaRadd
import Derived.Test.YtedkaedeahobjaaPPthx6
namespace Go.Proofs.Ytedkaedeahobjaa.PRad
open Go.RowKit Go.Proofs.Ytedkaedeahobjaa.PPth Go.Proofs.YtedkaedeahobjaaW.PrintWords
set_option linter.unusedVariables false
set_option linter.unusedSimpArgs false

/-! ### 1. Add -/
theorem rsh_f (a0 : ByteArray) (l : List ByteArray) (hl : l.length ≤ 1000000000) : gatepostref11_Shorten.f a0 l = some (shL a0 l) := by unfold gatepostref11_Shorten.f; rw [if_pos hl]
theorem radd_j1 (b : Bool) (l : List ByteArray) (hl : l.length ≤ 1000000000) : Ev (fun k => gatepostref11_Add.j1 k b l) (if b = true then l ++ [⟨#[]⟩] else l) := by
  refine Ev.succ (h := fun _ => some (if b = true then l ++ [⟨#[]⟩] else l)) (fun k => ?_) (Ev.done _)
  simp only [gatepostref11_Add.j1]
  by_cases hb : b = true
  · rw [if_pos hb, if_pos hb, if_pos (by omega)]
  · rw [if_neg hb, if_neg hb]
theorem radd_f (a0 : ByteArray) (l : List ByteArray) (s : ByteArray) (b : Bool) (hl : l.length ≤ 1000000) (hs : s.size ≤ 1000000) : Ev (fun k => gatepostref11_Add.f k a0 l s b) (addL a0 l s b) := by
  have hsl := shL_len a0 l
  unfold gatepostref11_Add.f
  refine Ev.bind1 rfl (Ev.yes (by simp; omega) (Ev.bind1 rfl (Ev.bind (rdots_f s hs) ?_)))
  show Ev (fun k => if dots s = true then gatepostref11_Add.j0 k a0 l s b l true else (gatepostref11_Dot.f k s).bind fun t212 => gatepostref11_Add.j0 k a0 l s b l t212) (addL a0 l s b)
  by_cases hd : dots s = true
  · refine Ev.yes hd ?_
    have ha : addL a0 l s b = if b = true then shL a0 l ++ [⟨#[]⟩] else shL a0 l := by unfold addL; rw [if_pos hd]
    rw [ha]
    refine Ev.succ (h := fun k => (gatepostref11_Dots.f k s).bind fun t213 => (if t213 = true then ((some (([] : List ByteArray) : List ByteArray)).bind fun y214 => ((gatepostref11_Shorten.f a0 l).bind fun t217 => (if y214.length + t217.length < 8796093022208 then (gatepostref11_Add.j1 k b (y214 ++ t217)) else (none)))) else (gatepostref11_Add.j1 k b l))) (fun k => by simp only [gatepostref11_Add.j0]; rfl) ?_
    refine Ev.bind (rdots_f s hs) (Ev.yes hd (Ev.bind1 rfl (Ev.bind1 (rsh_f a0 l (by omega)) (Ev.yes (by simp; omega) ?_))))
    exact radd_j1 b (shL a0 l) (by omega)
  · refine Ev.no hd (Ev.bind (rdot_f s hs) ?_)
    by_cases hd1 : dot s = true
    · have ha : addL a0 l s b = if b = true then l ++ [⟨#[]⟩] else l := by unfold addL; rw [if_neg hd, if_pos hd1]
      rw [ha, hd1]
      refine Ev.succ (h := fun k => (gatepostref11_Dots.f k s).bind fun t213 => (if t213 = true then ((some (([] : List ByteArray) : List ByteArray)).bind fun y214 => ((gatepostref11_Shorten.f a0 l).bind fun t217 => (if y214.length + t217.length < 8796093022208 then (gatepostref11_Add.j1 k b (y214 ++ t217)) else (none)))) else (gatepostref11_Add.j1 k b l))) (fun k => by simp only [gatepostref11_Add.j0]; rfl) ?_
      exact Ev.bind (rdots_f s hs) (Ev.no hd (radd_j1 b l (by omega)))
    · have ha : addL a0 l s b = if a0.toList = fileL ∧ l.length = 0 ∧ drv s = true then l ++ [drive1 s] else l ++ [s] := by unfold addL; rw [if_neg hd, if_neg hd1]
      rw [ha, Bool.eq_false_iff.2 hd1]
      refine Ev.succ (h := fun _ => some (if a0.toList = fileL ∧ l.length = 0 ∧ drv s = true then l ++ [drive1 s] else l ++ [s])) (fun k => ?_) (Ev.done _)
      simp only [gatepostref11_Add.j0]
      rw [if_neg (by decide)]
      by_cases hf : a0.toList = ([102, 105, 108, 101] : List UInt8)
      · rw [if_pos hf]
        by_cases h0 : (l.length : Int) = 0
        · rw [if_pos h0, rdrive_f]
          simp only [Option.bind_some]
          by_cases hv : drv s = true
          · have h2 := (of_decide_eq_true hv).1
            rw [if_pos hv, if_pos (by decide), if_pos (by omega), if_pos (by rw [ByteArray.size_extract]; omega), if_pos ⟨hf, by omega, hv⟩]
            obtain rfl : l = [] := List.length_eq_zero_iff.1 (by omega)
            rfl
          · rw [if_neg hv, if_pos (by omega), if_neg (fun k => hv k.2.2)]
        · rw [if_neg h0, if_pos (by omega), if_neg (fun k => h0 (by omega))]
      · rw [if_neg hf, if_pos (by omega), if_neg (fun k => hf k.1)]
/-! ### 2. Text -/
theorem text_ev (l : List ByteArray) (hl : l.length ≤ 1000000) (hs : Short l) : ∀ m i (s : ByteArray), l.length - i = m → i ≤ l.length → s = ⟨(txL (l.take i)).toArray⟩ →
    Ev (fun k => PPth.gatepostref11_Text.l0 k l s (i : Int)) ⟨(txL l).toArray⟩ := by
  intro m
  induction m with
  | zero =>
    intro i s hm hi hsv
    refine Ev.succ (h := fun _ => some s) (fun k => ?_) ?_
    · simp only [PPth.gatepostref11_Text.l0]; rw [if_neg (by omega)]
    · rw [hsv, List.take_of_length_le (by omega)]; exact Ev.done _
  | succ m ih =>
    intro i s hm hi hsv
    have hw := wrap64_id ((i : Int) + 1) (by omega) (by omega)
    have hx := hs _ (rdOf_mem' l i (by omega))
    have hle := txL_len (l.take i) (fun x hx => hs x (List.mem_of_mem_take hx))
    have hsz : s.size = (txL (l.take i)).length := by rw [hsv]; rfl
    rw [List.length_take] at hle
    have hsz2 : (s ++ (⟨#[47]⟩ : ByteArray)).size = s.size + 1 := by rw [ByteArray.size_append]; rfl
    have hi1 := ih (i + 1) ((s ++ (⟨#[47]⟩ : ByteArray)) ++ rdOf ByteArray.empty l (i : Int)) (by omega) (by omega) (by
      rw [take_rdOf l i (by omega), txL_snoc, hsv]
      apply ByteArray.ext
      apply Array.ext'
      simp [ByteArray.data_append])
    refine Ev.succ (h := fun k => PPth.gatepostref11_Text.l0 k l ((s ++ (⟨#[47]⟩ : ByteArray)) ++ rdOf ByteArray.empty l (i : Int)) (((i + 1 : Nat)) : Int)) (fun k => ?_) hi1
    simp only [PPth.gatepostref11_Text.l0]
    rw [if_pos (by omega), if_pos (by omega), if_pos (by omega), if_pos (by omega), hw]; rfl
theorem text_f (l : List ByteArray) (hl : l.length ≤ 1000000) (hs : Short l) : Ev (fun k => PPth.gatepostref11_Text.f k l) ⟨(txL l).toArray⟩ := by
  have h := text_ev l hl hs _ 0 ⟨#[]⟩ rfl (by omega) (by simp [txL])
  simpa [PPth.gatepostref11_Text.f] using h
end Go.Proofs.Ytedkaedeahobjaa.PRad
