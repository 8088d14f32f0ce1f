/- Plain Lean: the reference's Add and All; the law PathClean. -/
import Derived.Test.YtedkaedeahobjaaSegs
import Derived.Test.YtedkaedeahobjaaPPthx6
namespace Go.Proofs.Ytedkaedeahobjaa
open Go.RowKit Go.Proofs.Ytedkaedeahobjaa.PPth Go.Proofs.YtedkaedeahobjaaW.PrintWords
set_option linter.unusedVariables false
set_option linter.unusedSimpArgs false

/-! ### 1. The reference's Shorten and Add -/
theorem mx_len (l : List ByteArray) (hl : l.length ≤ 1000000000) : mx (wrap64 ((l.length : Int) - 1)) 0 = ((l.length - 1 : Nat) : Int) := by
  rw [wrap64_id _ (by omega) (by omega)]
  unfold mx
  split <;> omega
theorem rshorten_f (a0 : ByteArray) (l : List ByteArray) (hl : l.length ≤ 1000000000) : gatepostref11_Shorten.f a0 l = some (shL a0 l) := by
  have hm := mx_len l hl
  have key : (if 0 ≤ (mx (wrap64 ((l.length : Int) - 1)) 0) then (if (mx (wrap64 ((l.length : Int) - 1)) 0) ≤ (l.length : Int) then (some (l.take ((mx (wrap64 ((l.length : Int) - 1)) 0) : Int).toNat)) else (none)) else (none)) = some (l.take (l.length - 1)) := by
    rw [hm, if_pos (by omega), if_pos (by omega), Int.toNat_natCast]
  have h0 : ¬ stays a0 l = true → shL a0 l = l.take (l.length - 1) := fun h => by unfold shL; rw [if_neg h]
  have hz : l.length = 0 → shL a0 l = l.take (l.length - 1) := fun h => by
    obtain rfl : l = [] := List.length_eq_zero_iff.1 h
    rfl
  have h1 : ¬ (a0.toList = fileL ∧ l.length = 1 ∧ drv (rdOf ByteArray.empty l 0) = true ∧ bt (rdOf ByteArray.empty l 0) 1 = 58) → shL a0 l = l.take (l.length - 1) := fun h => by
    by_cases hl0 : l.length = 0
    · exact hz hl0
    · exact h0 (by unfold stays; rw [decide_eq_false (fun k => k.elim hl0 h)]; decide)
  unfold gatepostref11_Shorten.f
  by_cases hf : a0.toList = ([102, 105, 108, 101] : List UInt8)
  · rw [if_pos hf]
    by_cases hn : (l.length : Int) = 1
    · rw [if_pos hn, if_pos (by omega), rdrive_f]
      simp only [Option.bind_some]
      by_cases hd : drv (rdOf ByteArray.empty l 0) = true
      · rw [if_pos hd, if_pos (by have := (of_decide_eq_true hd).1; omega)]
        by_cases h58 : bt (rdOf ByteArray.empty l 0) 1 = 58
        · rw [if_pos h58]
          have hst : stays a0 l = true := decide_eq_true (.inr ⟨hf, by omega, hd, h58⟩)
          unfold shL
          rw [if_pos hst]
        · rw [if_neg h58, key, h1 (fun k => h58 k.2.2.2)]
      · rw [if_neg hd, key, h1 (fun k => hd k.2.2.1)]
    · rw [if_neg hn, key, h1 (fun k => hn (by omega))]
  · rw [if_neg hf, key, h1 (fun k => hf k.1)]
theorem radd_j1 (b : Bool) (l : List ByteArray) (hl : l.length ≤ 1000000000) : Ev (fun k => gatepostref11_Add.j1 k b l) (if b = true then l ++ [⟨#[]⟩] else l) := by
  refine Ev.succ (h := fun _ => some (if b = true then l ++ [⟨#[]⟩] else l)) (fun k => ?_) (Ev.done _)
  simp only [gatepostref11_Add.j1]
  by_cases hb : b = true
  · rw [if_pos hb, if_pos hb, if_pos (by omega)]
  · rw [if_neg hb, if_neg hb]
theorem radd_f (a0 : ByteArray) (l : List ByteArray) (s : ByteArray) (b : Bool) (hl : l.length ≤ 1000000) (hs : s.size ≤ 1000000) : Ev (fun k => gatepostref11_Add.f k a0 l s b) (addL a0 l s b) := by
  have hsl := shL_len a0 l
  unfold gatepostref11_Add.f
  refine Ev.bind1 rfl (Ev.yes (by simp; omega) (Ev.bind1 rfl (Ev.bind (rdots_f s hs) ?_)))
  show Ev (fun k => if dots s = true then gatepostref11_Add.j0 k a0 l s b l true else (gatepostref11_Dot.f k s).bind fun t212 => gatepostref11_Add.j0 k a0 l s b l t212) (addL a0 l s b)
  by_cases hd : dots s = true
  · refine Ev.yes hd ?_
    have ha : addL a0 l s b = if b = true then shL a0 l ++ [⟨#[]⟩] else shL a0 l := by unfold addL; rw [if_pos hd]
    rw [ha]
    refine Ev.succ (h := fun k => (gatepostref11_Dots.f k s).bind fun t213 => (if t213 = true then ((some (([] : List ByteArray) : List ByteArray)).bind fun y214 => ((gatepostref11_Shorten.f a0 l).bind fun t217 => (if y214.length + t217.length < 8796093022208 then (gatepostref11_Add.j1 k b (y214 ++ t217)) else (none)))) else (gatepostref11_Add.j1 k b l))) (fun k => by simp only [gatepostref11_Add.j0]; rfl) ?_
    refine Ev.bind (rdots_f s hs) (Ev.yes hd (Ev.bind1 rfl (Ev.bind1 (rshorten_f a0 l (by omega)) (Ev.yes (by simp; omega) ?_))))
    exact radd_j1 b (shL a0 l) (by omega)
  · refine Ev.no hd (Ev.bind (rdot_f s hs) ?_)
    by_cases hd1 : dot s = true
    · have ha : addL a0 l s b = if b = true then l ++ [⟨#[]⟩] else l := by unfold addL; rw [if_neg hd, if_pos hd1]
      rw [ha, hd1]
      refine Ev.succ (h := fun k => (gatepostref11_Dots.f k s).bind fun t213 => (if t213 = true then ((some (([] : List ByteArray) : List ByteArray)).bind fun y214 => ((gatepostref11_Shorten.f a0 l).bind fun t217 => (if y214.length + t217.length < 8796093022208 then (gatepostref11_Add.j1 k b (y214 ++ t217)) else (none)))) else (gatepostref11_Add.j1 k b l))) (fun k => by simp only [gatepostref11_Add.j0]; rfl) ?_
      exact Ev.bind (rdots_f s hs) (Ev.no hd (radd_j1 b l (by omega)))
    · have ha : addL a0 l s b = if a0.toList = fileL ∧ l.length = 0 ∧ drv s = true then l ++ [drive1 s] else l ++ [s] := by unfold addL; rw [if_neg hd, if_neg hd1]
      rw [ha, Bool.eq_false_iff.2 hd1]
      refine Ev.succ (h := fun _ => some (if a0.toList = fileL ∧ l.length = 0 ∧ drv s = true then l ++ [drive1 s] else l ++ [s])) (fun k => ?_) (Ev.done _)
      simp only [gatepostref11_Add.j0]
      rw [if_neg (by decide)]
      by_cases hf : a0.toList = ([102, 105, 108, 101] : List UInt8)
      · rw [if_pos hf]
        by_cases h0 : (l.length : Int) = 0
        · rw [if_pos h0, rdrive_f]
          simp only [Option.bind_some]
          by_cases hv : drv s = true
          · have h2 := (of_decide_eq_true hv).1
            rw [if_pos hv, if_pos (by decide), if_pos (by omega), if_pos (by rw [ByteArray.size_extract]; omega), if_pos ⟨hf, by omega, hv⟩]
            obtain rfl : l = [] := List.length_eq_zero_iff.1 (by omega)
            rfl
          · rw [if_neg hv, if_pos (by omega), if_neg (fun k => hv k.2.2)]
        · rw [if_neg h0, if_pos (by omega), if_neg (fun k => h0 (by omega))]
      · rw [if_neg hf, if_pos (by omega), if_neg (fun k => hf k.1)]
/-! ### 2. All -/
/-- Segments added one by one, the last one as the last. -/
def allL (a0 : ByteArray) : List ByteArray → List ByteArray → List ByteArray
  | acc, [] => acc
  | acc, x :: t => allL a0 (addL a0 acc x t.isEmpty) t
theorem last_flag (l : List ByteArray) (i : Nat) (hi : i < l.length) (hl : l.length ≤ 1000000) : ((i : Int) == wrap64 ((l.length : Int) - 1)) = (l.drop (i + 1)).isEmpty := by
  rw [wrap64_id _ (by omega) (by omega)]
  by_cases h : i + 1 = l.length
  · rw [List.drop_eq_nil_of_le (by omega)]
    exact beq_iff_eq.2 (by omega)
  · have h2 : (l.drop (i + 1)).isEmpty = false := by
      rw [List.isEmpty_eq_false_iff]
      intro e
      have := congrArg List.length e
      rw [List.length_drop] at this
      simp at this
      omega
    rw [h2]
    exact beq_eq_false_iff_ne.2 (by omega)
theorem all_ev (a0 : ByteArray) (l : List ByteArray) (hl : l.length ≤ 1000) (hs : ∀ x ∈ l, x.size ≤ 1000) : ∀ m i (acc : List ByteArray), l.length - i = m → i ≤ l.length → acc.length ≤ i →
    Ev (fun k => gatepostlaw11_all.l0 k a0 l acc (i : Int)) (allL a0 acc (l.drop i)) ∧ Ev (fun k => gatepostref11_All.l0 k a0 l acc (i : Int)) (allL a0 acc (l.drop i)) := by
  intro m
  induction m with
  | zero =>
    intro i acc hm hi ha
    rw [List.drop_eq_nil_of_le (by omega)]
    constructor
    · refine Ev.succ (h := fun _ => some acc) (fun k => ?_) (Ev.done _)
      simp only [gatepostlaw11_all.l0]; rw [if_neg (by omega)]
    · refine Ev.succ (h := fun _ => some acc) (fun k => ?_) (Ev.done _)
      simp only [gatepostref11_All.l0]; rw [if_neg (by omega)]
  | succ m ih =>
    intro i acc hm hi ha
    rw [drop_rdOf l i (by omega)]
    have hx := hs _ (rdOf_mem' l i (by omega))
    have hfl := last_flag l i (by omega) (by omega)
    have hw := wrap64_id ((i : Int) + 1) (by omega) (by omega)
    have hln := addL_len a0 acc (rdOf ByteArray.empty l (i : Int)) (l.drop (i + 1)).isEmpty
    obtain ⟨h1, h2⟩ := ih (i + 1) (addL a0 acc (rdOf ByteArray.empty l (i : Int)) (l.drop (i + 1)).isEmpty) (by omega) (by omega) (by omega)
    constructor
    · refine Ev.succ (h := fun k => gatepostlaw11_all.l0 k a0 l (addL a0 acc (rdOf ByteArray.empty l (i : Int)) (l.drop (i + 1)).isEmpty) (((i + 1 : Nat)) : Int)) (fun k => ?_) h1
      simp only [gatepostlaw11_all.l0]
      rw [if_pos (by omega), if_pos (by omega), hfl, add_f _ _ _ _ (by omega) (by omega), hw]
      rfl
    · refine Ev.succ (h := fun k => (gatepostref11_Add.f k a0 acc (rdOf ByteArray.empty l (i : Int)) (l.drop (i + 1)).isEmpty).bind fun t240 => gatepostref11_All.l0 k a0 l t240 (((i + 1 : Nat)) : Int)) (fun k => ?_) (Ev.bind (radd_f a0 acc _ _ (by omega) (by omega)) h2)
      simp only [gatepostref11_All.l0]
      rw [if_pos (by omega), if_pos (by omega), hfl, hw]
      rfl
theorem all_f (a0 : ByteArray) (l : List ByteArray) (hl : l.length ≤ 1000) (hs : ∀ x ∈ l, x.size ≤ 1000) : Ev (fun k => gatepostlaw11_all.f k a0 l) (allL a0 [] l) := by
  have h := (all_ev a0 l hl hs _ 0 [] rfl (by omega) (by simp)).1
  simpa [gatepostlaw11_all.f] using h
theorem rall_f (a0 : ByteArray) (l : List ByteArray) (hl : l.length ≤ 1000) (hs : ∀ x ∈ l, x.size ≤ 1000) : Ev (fun k => gatepostref11_All.f k a0 l) (allL a0 [] l) := by
  have h := (all_ev a0 l hl hs _ 0 [] rfl (by omega) (by simp)).2
  simpa [gatepostref11_All.f] using h
/-! ### 3. What is added has no dots -/
structure Good (a0 : ByteArray) (acc : List ByteArray) : Prop where
  plain : ∀ x ∈ acc, dot x = false ∧ dots x = false ∧ x.size ≤ 1000
  head : a0.toList = fileL → ∀ x t, acc = x :: t → drv x = true → bt x 1 = 58
theorem drive1_two' (s : ByteArray) (h : drv s = true) : ∃ c d : UInt8, s = ⟨#[c, d]⟩ ∧ drive1 s = ⟨#[c, 58]⟩ ∧ c ≠ 37 ∧ c ≠ 46 := by
  obtain ⟨h2, hl, _⟩ := of_decide_eq_true h
  obtain ⟨⟨l⟩⟩ := s
  match l, h2 with
  | [c, d], _ =>
    refine ⟨c, d, rfl, rfl, ?_, ?_⟩
    · rintro rfl
      rw [letr_eq _ (bt_range _ _)] at hl
      have k : (97 ≤ (37 : Int) ∧ (37 : Int) ≤ 122) ∨ 65 ≤ (37 : Int) ∧ (37 : Int) ≤ 90 := of_decide_eq_true hl
      omega
    · rintro rfl
      rw [letr_eq _ (bt_range _ _)] at hl
      have k : (97 ≤ (46 : Int) ∧ (46 : Int) ≤ 122) ∨ 65 ≤ (46 : Int) ∧ (46 : Int) ≤ 90 := of_decide_eq_true hl
      omega
theorem drive1_plain (s : ByteArray) (h : drv s = true) : dot (drive1 s) = false ∧ dots (drive1 s) = false ∧ (drive1 s).size ≤ 1000 := by
  obtain ⟨c, d, rfl, e, h37, h46⟩ := drive1_two' s h
  rw [e]
  have hr : rep [c, 58] = [c, 58] := by rw [rep_other c _ h37, rep_other 58 _ (by decide)]; rfl
  refine ⟨?_, ?_, by show 2 ≤ 1000; decide⟩
  · unfold dot
    show (rep [c, 58] == [46]) = false
    rw [hr]
    exact beq_eq_false_iff_ne.2 (fun h => by injection h with _ h; cases h)
  · unfold dots
    show (rep [c, 58] == [46, 46]) = false
    rw [hr]
    exact beq_eq_false_iff_ne.2 (fun h => by injection h with h _; exact h46 h)
theorem Good.sub {a0 : ByteArray} {acc : List ByteArray} (h : Good a0 acc) (n : Nat) : Good a0 (acc.take n) := by
  refine ⟨fun x hx => h.plain x (List.mem_of_mem_take hx), fun hf x t e hd => ?_⟩
  cases acc with
  | nil => simp at e
  | cons y r =>
    cases n with
    | zero => simp at e
    | succ n => rw [List.take_succ_cons] at e; injection e with e1 _; subst e1; exact h.head hf _ r rfl hd
theorem Good.sh {a0 : ByteArray} {acc : List ByteArray} (h : Good a0 acc) : Good a0 (shL a0 acc) := by
  unfold shL
  split
  · exact h
  · exact h.sub _
theorem Good.snoc {a0 : ByteArray} {acc : List ByteArray} (h : Good a0 acc) (x : ByteArray) (hx : dot x = false ∧ dots x = false ∧ x.size ≤ 1000) (hh : a0.toList = fileL → acc = [] → drv x = true → bt x 1 = 58) : Good a0 (acc ++ [x]) := by
  refine ⟨fun y hy => ?_, fun hf y t e hd => ?_⟩
  · rcases List.mem_append.1 hy with hy | hy
    · exact h.plain y hy
    · rw [List.mem_singleton.1 hy]; exact hx
  · cases acc with
    | nil => rw [List.nil_append] at e; injection e with e1 _; subst e1; exact hh hf rfl hd
    | cons z r => rw [List.cons_append] at e; injection e with e1 _; subst e1; exact h.head hf _ r rfl hd
theorem Good.add {a0 : ByteArray} {acc : List ByteArray} (h : Good a0 acc) (s : ByteArray) (b : Bool) (hs : s.size ≤ 1000) : Good a0 (addL a0 acc s b) := by
  have he : dot (⟨#[]⟩ : ByteArray) = false ∧ dots (⟨#[]⟩ : ByteArray) = false ∧ (⟨#[]⟩ : ByteArray).size ≤ 1000 := ⟨rfl, rfl, by decide⟩
  have hn : ¬ drv (⟨#[]⟩ : ByteArray) = true := by decide
  unfold addL
  split
  · split
    · exact h.sh.snoc _ he (fun _ _ k => absurd k hn)
    · exact h.sh
  split
  · split
    · exact h.snoc _ he (fun _ _ k => absurd k hn)
    · exact h
  rename_i hd hd1
  split
  · rename_i hc
    refine h.snoc _ (drive1_plain s hc.2.2) (fun _ _ _ => ?_)
    obtain ⟨c, d, rfl, e, _⟩ := drive1_two' s hc.2.2
    rw [e]; rfl
  · rename_i hc
    refine h.snoc s ⟨Bool.eq_false_iff.2 hd1, Bool.eq_false_iff.2 hd, hs⟩ (fun hf ha hv => absurd ⟨hf, by rw [ha]; rfl, hv⟩ hc)
theorem Good.all {a0 : ByteArray} : ∀ (l acc : List ByteArray), Good a0 acc → (∀ x ∈ l, x.size ≤ 1000) → Good a0 (allL a0 acc l)
  | [], acc, h, _ => h
  | x :: t, acc, h, hs => Good.all t _ (h.add x _ (hs x List.mem_cons_self)) (fun y hy => hs y (List.mem_cons_of_mem _ hy))
theorem allL_len (a0 : ByteArray) : ∀ (l acc : List ByteArray), (allL a0 acc l).length ≤ acc.length + l.length
  | [], acc => by simp [allL]
  | x :: t, acc => by
    have h := allL_len a0 t (addL a0 acc x t.isEmpty)
    have h2 := addL_len a0 acc x t.isEmpty
    show (allL a0 (addL a0 acc x t.isEmpty) t).length ≤ _
    rw [List.length_cons]; omega
theorem drive1_same (s : ByteArray) (h : drv s = true) (h1 : bt s 1 = 58) : drive1 s = s := by
  obtain ⟨c, d, rfl, e, _⟩ := drive1_two' s h
  rw [e]
  have : (d.toNat : Int) = 58 := h1
  have : d = 58 := UInt8.toNat_inj.1 (by show d.toNat = 58; omega)
  rw [this]
theorem good_again {a0 : ByteArray} : ∀ (l acc : List ByteArray), Good a0 (acc ++ l) → allL a0 acc l = acc ++ l
  | [], acc, _ => by simp [allL]
  | x :: t, acc, h => by
    have hx := h.plain x (by simp)
    have ha : addL a0 acc x t.isEmpty = acc ++ [x] := by
      unfold addL
      rw [if_neg (by rw [hx.2.1]; decide), if_neg (by rw [hx.1]; decide)]
      split
      · rename_i hc
        obtain rfl : acc = [] := List.length_eq_zero_iff.1 hc.2.1
        rw [drive1_same x hc.2.2 (h.head hc.1 x t rfl hc.2.2)]
      · rfl
    show allL a0 (addL a0 acc x t.isEmpty) t = _
    rw [ha]
    have h2 : Good a0 ((acc ++ [x]) ++ t) := by rwa [List.append_assoc, List.singleton_append]
    rw [good_again t (acc ++ [x]) h2, List.append_assoc, List.singleton_append]
/-! ### 4. The law -/
theorem clean_loop (a0 : ByteArray) (l a : List ByteArray) (hl : l.length ≤ 20) (hs : ∀ x ∈ l, x.size ≤ 60) (he : a = allL a0 [] l) : ∀ m i, a.length - i = m → i ≤ a.length →
    Ev (fun k => gatepostlaw11_PathClean.l0 k a0 l true a (i : Int)) true := by
  have hg : Good a0 a := he ▸ Good.all l [] ⟨fun x hx => (by cases hx), fun _ x t e _ => (by cases e)⟩ (fun x hx => by have := hs x hx; omega)
  have hla : a.length ≤ l.length := by have := allL_len a0 l []; rw [← he] at this; simpa using this
  intro m
  induction m with
  | zero =>
    intro i hm hi
    refine Ev.succ (h := fun k => (gatepostlaw11_all.f k a0 a).bind fun t252 => (if true = true then ((gatepostref11_All.f k a0 l).bind fun t255 => ((gatepostref11_Same.f k a t255).bind fun t258 => (if t258 = true then ((gatepostref11_Same.f k a t252).bind fun t259 => (if t259 = true then (some (decide ((a.length : Int) ≤ (l.length : Int)))) else (some false))) else (some false)))) else (some false))) (fun k => ?_) ?_
    · simp only [gatepostlaw11_PathClean.l0]; rw [if_neg (by omega)]
    · have hag : allL a0 [] a = a := by have := good_again (a0 := a0) a [] hg; simpa using this
      have h1 := all_f a0 a (by omega) (fun x hx => (hg.plain x hx).2.2)
      rw [hag] at h1
      have h2 := rall_f a0 l (by omega) (fun x hx => by have := hs x hx; omega)
      rw [← he] at h2
      refine Ev.bind h1 (Ev.yes rfl (Ev.bind h2 (Ev.bind (same_f a (by omega)) (Ev.yes rfl (Ev.bind (same_f a (by omega)) (Ev.yes rfl ?_))))))
      rw [decide_eq_true (by omega)]
      exact Ev.done _
  | succ m ih =>
    intro i hm hi
    have hx := hg.plain _ (rdOf_mem' a i (by omega))
    have hw := wrap64_id ((i : Int) + 1) (by omega) (by omega)
    refine Ev.succ (h := fun k => gatepostlaw11_PathClean.l0 k a0 l true a (((i + 1 : Nat)) : Int)) (fun k => ?_) (ih (i + 1) (by omega) (by omega))
    simp only [gatepostlaw11_PathClean.l0]
    rw [if_pos (by omega), if_pos (by omega), dot_f _ (by omega), dots_f _ (by omega), hx.1, hx.2.1, hw]
    rfl
theorem clean_pure (a0 : ByteArray) (l : List ByteArray) : ∃ k, gatepostlaw11_PathClean.f k a0 l = some true := by
  apply Ev.at
  unfold gatepostlaw11_PathClean.f
  refine Ev.bind1 awake_f (Ev.bind (few_f l) ?_)
  have hend : Ev (fun k => gatepostlaw11_PathClean.j0 k a0 l true true) true := Ev.succ (h := fun _ => some true) (fun k => by simp only [gatepostlaw11_PathClean.j0]; rfl) (Ev.done _)
  by_cases hf : few l = true
  · rw [hf]
    refine Ev.yes rfl ?_
    by_cases h0 : (a0.size : Int) > 60
    · rw [decide_eq_true h0]; exact hend
    · rw [decide_eq_false h0]
      obtain ⟨hl, hs⟩ := of_decide_eq_true hf
      refine Ev.succ (h := fun k => (gatepostlaw11_all.f k a0 l).bind fun t245 => (gatepostlaw11_PathClean.l0 k a0 l true t245 0)) (fun k => by simp only [gatepostlaw11_PathClean.j0]; rfl) ?_
      refine Ev.bind (all_f a0 l (by omega) (fun x hx => by have := hs x hx; omega)) ?_
      exact clean_loop a0 l _ hl hs rfl _ 0 rfl (Nat.zero_le _)
  · rw [Bool.eq_false_iff.2 hf]
    exact Ev.no (by decide) hend
end Go.Proofs.Ytedkaedeahobjaa
