/- Plain Lean: drives; the law PathTells. -/
import Derived.Test.YtedkaedeahobjaaEv
namespace Go.Proofs.Ytedkaedeahobjaa
open Go.RowKit Go.Proofs.Ytedkaedeahobjaa.PPth Go.Proofs.YtedkaedeahobjaaW.PrintWords
set_option linter.unusedVariables false
set_option linter.unusedSimpArgs false

theorem letr_all : (List.range 256).all (fun n => letr (n : Int) == decide (97 ≤ n ∧ n ≤ 122 ∨ 65 ≤ n ∧ n ≤ 90)) = true := by kernel_rfl
theorem letr_eq (c : Int) (h : 0 ≤ c ∧ c ≤ 255) : letr c = decide (97 ≤ c ∧ c ≤ 122 ∨ 65 ≤ c ∧ c ≤ 90) := by
  have := List.all_eq_true.1 letr_all c.toNat (List.mem_range.2 (by omega))
  have := beq_iff_eq.1 this
  rw [show ((c.toNat : Nat) : Int) = c by omega] at this
  rw [this]
  exact decide_eq_decide.2 (by omega)
theorem rdrive_f (s : ByteArray) : gatepostref11_Drive.f s = some (drv s) := by
  have h0 := bt_range s 0
  unfold gatepostref11_Drive.f drv
  rw [letr_eq _ h0]
  by_cases hs : (s.size : Int) = 2
  · have hs' : s.size = 2 := by omega
    rw [if_pos hs, if_pos (by omega)]
    have key : (if bt s 0 ≥ 97 then if bt s 0 ≤ 122 then some true else if bt s 0 ≥ 65 then some (decide (bt s 0 ≤ 90)) else some false else if bt s 0 ≥ 65 then some (decide (bt s 0 ≤ 90)) else some false) = some (decide (97 ≤ bt s 0 ∧ bt s 0 ≤ 122 ∨ 65 ≤ bt s 0 ∧ bt s 0 ≤ 90)) := by
      by_cases a : bt s 0 ≥ 97
      · rw [if_pos a]
        by_cases b : bt s 0 ≤ 122
        · rw [if_pos b, decide_eq_true (.inl ⟨a, b⟩)]
        · rw [if_neg b, if_pos (by omega)]
          congr 1; exact decide_eq_decide.2 (by omega)
      · rw [if_neg a]
        by_cases b : bt s 0 ≥ 65
        · rw [if_pos b]; congr 1; exact decide_eq_decide.2 (by omega)
        · rw [if_neg b, decide_eq_false (by omega)]
    by_cases h1 : bt s 1 = 58
    · rw [if_pos h1, if_pos (by omega), key]
      congr 1
      by_cases hq : 97 ≤ bt s 0 ∧ bt s 0 ≤ 122 ∨ 65 ≤ bt s 0 ∧ bt s 0 ≤ 90
      · rw [decide_eq_true hq, decide_eq_true ⟨hs', rfl, .inl h1⟩]
      · rw [decide_eq_false hq, decide_eq_false (fun k => by cases k.2.1)]
    · rw [if_neg h1]
      by_cases h2 : bt s 1 = 124
      · rw [if_pos h2, if_pos (by omega), key]
        congr 1
        by_cases hq : 97 ≤ bt s 0 ∧ bt s 0 ≤ 122 ∨ 65 ≤ bt s 0 ∧ bt s 0 ≤ 90
        · rw [decide_eq_true hq, decide_eq_true ⟨hs', rfl, .inr h2⟩]
        · rw [decide_eq_false hq, decide_eq_false (fun k => by cases k.2.1)]
      · rw [if_neg h2, decide_eq_false (fun k => k.2.2.elim h1 h2)]
  · rw [if_neg hs, decide_eq_false (fun k => hs (by omega))]
theorem index_slash (c : Int) (h : 0 ≤ c ∧ c ≤ 255) : decide (Lib.indexByte [47, 92, 63, 35] c.toNat.toUInt8 ≥ 0) = decide (c = 47 ∨ c = 92 ∨ c = 63 ∨ c = 35) := by
  have hu : ∀ d : UInt8, (d == c.toNat.toUInt8) = decide (c = (d.toNat : Int)) := fun d => by
    by_cases e : c = (d.toNat : Int)
    · rw [decide_eq_true e]
      apply beq_iff_eq.2
      apply UInt8.toNat_inj.1
      subst e; simp
    · rw [decide_eq_false e]
      apply beq_eq_false_iff_ne.2
      intro k
      apply e
      have := congrArg UInt8.toNat k
      have h2 : c.toNat.toUInt8.toNat = c.toNat := by
        show c.toNat % 256 = c.toNat
        omega
      rw [h2] at this
      omega
  simp only [Lib.indexByte, hu]
  show _ = decide (c = 47 ∨ c = 92 ∨ c = 63 ∨ c = 35)
  by_cases a : c = 47
  · subst a; rfl
  by_cases b : c = 92
  · subst b; rfl
  by_cases d : c = 63
  · subst d; rfl
  by_cases e : c = 35
  · subst e; rfl
  have e1 : decide (c = ((47 : UInt8).toNat : Int)) = false := decide_eq_false a
  have e2 : decide (c = ((92 : UInt8).toNat : Int)) = false := decide_eq_false b
  have e3 : decide (c = ((63 : UInt8).toNat : Int)) = false := decide_eq_false d
  have e4 : decide (c = ((35 : UInt8).toNat : Int)) = false := decide_eq_false e
  rw [e1, e2, e3, e4, decide_eq_false (show ¬ (c = 47 ∨ c = 92 ∨ c = 63 ∨ c = 35) from fun k => k.elim a (fun k => k.elim b (fun k => k.elim d e)))]
  rfl
/-- Does a text begin with a drive? -/
def stt (s : ByteArray) : Bool := if (s.size : Int) < 2 then false else if drv (s.extract 0 2) = true then (if (s.size : Int) = 2 then true else decide (bt s 2 = 47 ∨ bt s 2 = 92 ∨ bt s 2 = 63 ∨ bt s 2 = 35)) else false
theorem starts_f (s : ByteArray) : path_Starts.f s = some (stt s) := by
  unfold path_Starts.f stt
  by_cases h : (s.size : Int) < 2
  · rw [if_pos h, if_pos h]
  rw [if_neg h, if_neg h, if_pos (by decide), if_pos (by omega)]
  unfold path_Drive.f
  simp only [Option.bind_some]
  by_cases hd : drv (s.extract 0 2) = true
  · rw [if_pos hd, if_pos hd]
    by_cases h2 : (s.size : Int) = 2
    · rw [if_pos h2, if_pos h2]
    rw [if_neg h2, if_neg h2, if_pos (by omega)]
    unfold strings_IndexByte.f
    simp only [Option.bind_some]
    have := index_slash (bt s 2) (bt_range s 2)
    rw [this]
  · rw [if_neg hd, if_neg hd]
theorem rstarts_f (s : ByteArray) : gatepostref11_Starts.f s = some (stt s) := by
  unfold gatepostref11_Starts.f stt
  by_cases h : (s.size : Int) < 2
  · rw [if_pos h, if_pos h]
  rw [if_neg h, if_neg h, if_pos (by decide), if_pos (by omega), rdrive_f]
  simp only [Option.bind_some]
  by_cases hd : drv (s.extract 0 2) = true
  · rw [if_pos hd, if_pos hd]
    by_cases h2 : (s.size : Int) = 2
    · rw [if_pos h2, if_pos h2]
    rw [if_neg h2, if_neg h2, if_pos (by omega)]
    by_cases a : bt s 2 = 47
    · rw [if_pos a, decide_eq_true (.inl a)]
    rw [if_neg a]
    by_cases b : bt s 2 = 92
    · rw [if_pos b, decide_eq_true (.inr (.inl b))]
    rw [if_neg b]
    by_cases c : bt s 2 = 63
    · rw [if_pos c, decide_eq_true (.inr (.inr (.inl c)))]
    rw [if_neg c]
    by_cases e : bt s 2 = 35
    · rw [decide_eq_true (.inr (.inr (.inr e)))]; congr 1; exact beq_iff_eq.2 e
    · rw [decide_eq_false (fun k => k.elim a (fun k => k.elim b (fun k => k.elim c e)))]; congr 1; exact beq_eq_false_iff_ne.2 e
  · rw [if_neg hd, if_neg hd]
theorem awake_f : gatepostlaw11_awake.f = some true := by kernel_rfl
theorem dot_f (s : ByteArray) (h : s.size ≤ 1000000000) : path_Dot.f s = some (dot s) := by unfold path_Dot.f; rw [if_pos h]
theorem dots_f (s : ByteArray) (h : s.size ≤ 1000000000) : path_Dots.f s = some (dots s) := by unfold path_Dots.f; rw [if_pos h]
theorem tells_pure : gatepostlaw11_PathTells.Pure := by
  intro s _
  apply Ev.at
  unfold gatepostlaw11_PathTells.f
  refine Ev.bind1 awake_f ?_
  by_cases h : (s.size : Int) > 60
  · exact Ev.yes h (Ev.done _)
  refine Ev.no h (Ev.yes rfl ?_)
  refine Ev.bind1 (dot_f s (by omega)) (Ev.bind (rdot_f s (by omega)) (Ev.yes (by simp) ?_))
  refine Ev.bind1 (dots_f s (by omega)) (Ev.bind (rdots_f s (by omega)) (Ev.yes (by simp) ?_))
  refine Ev.bind1 (a := drv s) rfl (Ev.bind1 (rdrive_f s) (Ev.yes (by simp) ?_))
  refine Ev.bind1 (starts_f s) (Ev.bind1 (rstarts_f s) ?_)
  simpa using Ev.done true
end Go.Proofs.Ytedkaedeahobjaa
