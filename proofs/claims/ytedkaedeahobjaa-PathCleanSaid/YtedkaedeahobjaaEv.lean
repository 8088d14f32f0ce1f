/- Plain Lean: dots, drives, as the reference has them. -/
import Derived.Test.YtedkaedeahobjaaPPthx4
namespace Go.Proofs.Ytedkaedeahobjaa
open Go.RowKit Go.Proofs.Ytedkaedeahobjaa.PPth Go.Proofs.YtedkaedeahobjaaW.PrintWords
set_option linter.unusedVariables false
set_option linter.unusedSimpArgs false

/-- From some number of rounds on. -/
def Ev {α : Type} (g : Nat → Option α) (r : α) : Prop := ∃ k0, ∀ k, k0 ≤ k → g k = some r
theorem Ev.succ {α : Type} {g h : Nat → Option α} {r : α} (hg : ∀ k, g (k + 1) = h k) (hh : Ev h r) : Ev g r := by
  obtain ⟨k0, hk⟩ := hh
  refine ⟨k0 + 1, fun k hk1 => ?_⟩
  obtain ⟨k', rfl⟩ : ∃ k', k = k' + 1 := ⟨k - 1, by omega⟩
  rw [hg]; exact hk k' (by omega)
theorem Ev.of {α : Type} {g h : Nat → Option α} {r : α} (hg : ∀ k, g k = h k) (hh : Ev h r) : Ev g r := by
  obtain ⟨k0, hk⟩ := hh
  exact ⟨k0, fun k hk1 => (hg k).trans (hk k hk1)⟩
theorem Ev.done {α : Type} (r : α) : Ev (fun _ => some r) r := ⟨0, fun _ _ => rfl⟩
theorem Ev.bind {α β : Type} {g : Nat → Option α} {h : Nat → α → Option β} {a : α} {b : β} (hg : Ev g a) (hh : Ev (fun k => h k a) b) : Ev (fun k => (g k).bind (h k)) b := by
  obtain ⟨k0, h0⟩ := hg
  obtain ⟨k1, h1⟩ := hh
  refine ⟨k0 + k1, fun k hk => ?_⟩
  show (g k).bind (h k) = some b
  rw [h0 k (by omega)]
  exact h1 k (by omega)
theorem Ev.bind1 {α β : Type} {g : Option α} {h : Nat → α → Option β} {a : α} {b : β} (hg : g = some a) (hh : Ev (fun k => h k a) b) : Ev (fun k => g.bind (h k)) b := by
  subst hg; exact hh
theorem Ev.yes {α : Type} {c : Prop} [Decidable c] {g h : Nat → Option α} {b : α} (hc : c) (hh : Ev g b) : Ev (fun k => if c then g k else h k) b := Ev.of (fun _ => if_pos hc) hh
theorem Ev.no {α : Type} {c : Prop} [Decidable c] {g h : Nat → Option α} {b : α} (hc : ¬ c) (hh : Ev h b) : Ev (fun k => if c then g k else h k) b := Ev.of (fun _ => if_neg hc) hh
theorem Ev.at {α : Type} {g : Nat → Option α} {r : α} (h : Ev g r) : ∃ k, g k = some r := by
  obtain ⟨k0, hk⟩ := h
  exact ⟨k0, hk k0 (Nat.le_refl _)⟩
theorem wrap64_id (x : Int) (h0 : -1000000000000 ≤ x) (h1 : x ≤ 1000000000000) : wrap64 x = x := by unfold wrap64; omega

/-! ### 1. Small letters -/
def lowN (n : Nat) : Nat := if 65 ≤ n ∧ n ≤ 90 then n + 32 else n
def lowU (x : UInt8) : UInt8 := UInt8.ofNat (lowN x.toNat)
def small (s : ByteArray) : ByteArray := ⟨(s.data.toList.map lowU).toArray⟩
def lowI (c : Int) : Int := if 65 ≤ c ∧ c ≤ 90 then c + 32 else c
theorem drop_byte (s : ByteArray) (i : Nat) (h : i < s.size) : (bytesOf s).drop i = bt s (i : Int) :: (bytesOf s).drop (i + 1) := by
  have hl : i < (bytesOf s).length := by rw [bytesOf_length]; exact h
  rw [List.drop_eq_getElem_cons hl, ← rd_bytesOf]
  unfold rd
  simp [List.getD_eq_getElem?_getD, List.getElem?_eq_getElem hl]
theorem small_ev (s : ByteArray) (hs : s.size ≤ 1000000) : ∀ m i (acc : List Int), s.size - i = m → i ≤ s.size → acc.length ≤ i →
    Ev (fun k => gatepostref10_Small.l0 k s acc (i : Int)) (strOfNums (acc ++ ((bytesOf s).drop i).map lowI)) := by
  intro m
  induction m with
  | zero =>
    intro i acc hm hi ha
    obtain rfl : i = s.size := by omega
    refine Ev.succ (h := fun _ => some (strOfNums acc)) (fun k => ?_) ?_
    · simp only [gatepostref10_Small.l0]; rw [if_neg (by omega)]
    · rw [List.drop_eq_nil_of_le (by rw [bytesOf_length]; exact Nat.le_refl _), List.map_nil, List.append_nil]
      exact Ev.done _
  | succ m ih =>
    intro i acc hm hi ha
    rw [drop_byte s i (by omega)]
    have hr := bt_range s (i : Int)
    have hw := wrap64_id ((i : Int) + 1) (by omega) (by omega)
    have hi1 := ih (i + 1) (acc ++ [lowI (bt s (i : Int))]) (by omega) (by omega) (by rw [List.length_append]; simp; omega)
    rw [List.append_assoc, List.singleton_append] at hi1
    refine Ev.succ (h := fun k => gatepostref10_Small.l0 k s (acc ++ [lowI (bt s (i : Int))]) (((i + 1 : Nat)) : Int)) (fun k => ?_) (by rw [List.map_cons]; exact hi1)
    simp only [gatepostref10_Small.l0]
    rw [if_pos (by omega), if_pos (by omega), hw]
    unfold lowI
    by_cases h1 : bt s (i : Int) ≥ 65
    · rw [if_pos h1]
      by_cases h2 : bt s (i : Int) ≤ 90
      · rw [if_pos h2, if_pos (by omega), if_pos ⟨h1, h2⟩, show (bt s (i : Int) + 32) % 256 = bt s (i : Int) + 32 by omega]; rfl
      · rw [if_neg h2, if_pos (by omega), if_neg (fun h => h2 h.2)]; rfl
    · rw [if_neg h1, if_pos (by omega), if_neg (fun h => h1 h.1)]; rfl
theorem small_f (s : ByteArray) (hs : s.size ≤ 1000000) : Ev (fun k => gatepostref10_Small.f k s) (small s) := by
  have h := small_ev s hs _ 0 [] rfl (by omega) (by simp)
  have e : strOfNums (([] : List Int) ++ ((bytesOf s).drop 0).map lowI) = small s := by
    unfold strOfNums small bytesOf
    congr 2
    rw [List.nil_append, List.drop_zero, List.map_map, List.map_map]
    apply List.map_congr_left
    intro x _
    show UInt8.ofNat (lowI (x.toNat : Int)).toNat = lowU x
    unfold lowI lowU lowN
    by_cases hx : 65 ≤ x.toNat ∧ x.toNat ≤ 90
    · rw [if_pos hx, if_pos (by omega)]; congr 1
    · rw [if_neg hx, if_neg (by omega)]; congr 1
  rw [e] at h
  simpa [gatepostref10_Small.f] using h
theorem small_toList (s : ByteArray) : (small s).toList = s.data.toList.map lowU := by unfold small; rw [toList_arr]
theorem low_lt (x : UInt8) : lowN x.toNat < 256 := by have := UInt8.toNat_lt x; unfold lowN; split <;> omega
theorem low_eq (x c : UInt8) : lowU x = c ↔ lowN x.toNat = c.toNat := by
  unfold lowU
  constructor
  · intro h
    have := congrArg UInt8.toNat h
    rwa [UInt8.toNat_ofNat_of_lt' (low_lt x)] at this
  · intro h
    apply UInt8.toNat_inj.1
    rw [UInt8.toNat_ofNat_of_lt' (low_lt x), h]
theorem low37 (x : UInt8) : lowU x = 37 ↔ x = 37 := by
  rw [low_eq, ← UInt8.toNat_inj]; show lowN x.toNat = 37 ↔ x.toNat = 37; unfold lowN; split <;> omega
theorem low46 (x : UInt8) : lowU x = 46 ↔ x = 46 := by
  rw [low_eq, ← UInt8.toNat_inj]; show lowN x.toNat = 46 ↔ x.toNat = 46; unfold lowN; split <;> omega
theorem low50 (x : UInt8) : lowU x = 50 ↔ x = 50 := by
  rw [low_eq, ← UInt8.toNat_inj]; show lowN x.toNat = 50 ↔ x.toNat = 50; unfold lowN; split <;> omega
theorem low101 (x : UInt8) : lowU x = 101 ↔ x = 101 ∨ x = 69 := by
  rw [low_eq, ← UInt8.toNat_inj, ← UInt8.toNat_inj]; show lowN x.toNat = 101 ↔ x.toNat = 101 ∨ x.toNat = 69; unfold lowN; split <;> omega

/-! ### 2. Dots -/
theorem rep_nil (l : List UInt8) : rep l = [] ↔ l = [] := by
  constructor
  · intro h
    match l with
    | [] => rfl
    | x :: t =>
      rw [rep.eq_def] at h
      split at h
      · cases h
      · cases h
      · cases h
      · rename_i h1; cases h1
  · rintro rfl; rfl
theorem rep_46 (l r : List UInt8) : rep l = 46 :: r ↔ (∃ t, l = 46 :: t ∧ rep t = r) ∨ (∃ x t, l = 37 :: 50 :: x :: t ∧ (x = 101 ∨ x = 69) ∧ rep t = r) := by
  constructor
  · intro h
    rw [rep.eq_def] at h
    split at h
    · rename_i t
      exact .inr ⟨101, t, rfl, .inl rfl, by injection h⟩
    · rename_i t
      exact .inr ⟨69, t, rfl, .inr rfl, by injection h⟩
    · rename_i x t _ _
      injection h with h1 h2
      subst h1
      exact .inl ⟨t, rfl, h2⟩
    · cases h
  · rintro (⟨t, rfl, rfl⟩ | ⟨x, t, rfl, rfl | rfl, rfl⟩)
    · exact rep_other 46 t (by decide)
    · rfl
    · rfl
theorem map_low_cons (l : List UInt8) (c : UInt8) (r : List UInt8) : l.map lowU = c :: r ↔ ∃ x t, l = x :: t ∧ lowU x = c ∧ t.map lowU = r := by
  cases l with
  | nil => exact ⟨fun h => (by cases h), fun ⟨_, _, e, _⟩ => (by cases e)⟩
  | cons x t =>
    rw [List.map_cons]
    constructor
    · intro h
      injection h with a b
      exact ⟨x, t, rfl, a, b⟩
    · rintro ⟨_, _, e, a, b⟩
      cases e
      rw [a, b]
theorem dot_iff (L : List UInt8) : rep L = [46] ↔ L = [46] ∨ L.map lowU = [37, 50, 101] := by
  rw [rep_46]
  simp only [map_low_cons, List.map_eq_nil_iff, rep_nil, low37, low50, low101]
  constructor
  · rintro (⟨t, rfl, rfl⟩ | ⟨x, t, rfl, hx, rfl⟩)
    · exact .inl rfl
    · exact .inr ⟨37, _, rfl, rfl, 50, _, rfl, rfl, x, _, rfl, hx, rfl⟩
  · rintro (rfl | ⟨_, _, rfl, rfl, _, _, rfl, rfl, x, _, rfl, hx, rfl⟩)
    · exact .inl ⟨[], rfl, rfl⟩
    · exact .inr ⟨x, [], rfl, hx, rfl⟩
theorem dots_iff (L : List UInt8) : rep L = [46, 46] ↔ (L.map lowU = [46, 46] ∨ L.map lowU = [46, 37, 50, 101] ∨ L.map lowU = [37, 50, 101, 46] ∨ L.map lowU = [37, 50, 101, 37, 50, 101]) := by
  rw [rep_46]
  simp only [dot_iff]
  constructor
  · rintro (⟨t, rfl, rfl | h⟩ | ⟨x, t, rfl, hx, rfl | h⟩)
    · exact .inl rfl
    · exact .inr (.inl (by rw [List.map_cons, h, (low46 46).2 rfl]))
    · exact .inr (.inr (.inl (by simp [(low37 37).2 rfl, (low50 50).2 rfl, (low101 x).2 hx, (low46 46).2 rfl])))
    · exact .inr (.inr (.inr (by simp [(low37 37).2 rfl, (low50 50).2 rfl, (low101 x).2 hx, h])))
  · simp only [map_low_cons, List.map_eq_nil_iff, low37, low50, low101, low46]
    rintro (⟨_, _, rfl, rfl, _, _, rfl, rfl, rfl⟩ | ⟨_, _, rfl, rfl, h⟩ | ⟨_, _, rfl, rfl, _, _, rfl, rfl, x, _, rfl, hx, _, _, rfl, rfl, rfl⟩ | ⟨_, _, rfl, rfl, _, _, rfl, rfl, x, _, rfl, hx, h⟩)
    · exact .inl ⟨_, rfl, .inl rfl⟩
    · exact .inl ⟨_, rfl, .inr h⟩
    · exact .inr ⟨x, _, rfl, hx, .inl rfl⟩
    · exact .inr ⟨x, _, rfl, hx, .inr h⟩
theorem beq_dec (a b : List UInt8) : (a == b) = decide (a = b) := by
  by_cases h : a = b
  · rw [beq_iff_eq.2 h, decide_eq_true h]
  · rw [beq_eq_false_iff_ne.2 h, decide_eq_false h]
theorem beq_of_iff {p q : Prop} [Decidable p] [Decidable q] (h : p ↔ q) : decide p = decide q := decide_eq_decide.2 h
theorem rdot_f (s : ByteArray) (hs : s.size ≤ 1000000) : Ev (fun k => gatepostref11_Dot.f k s) (dot s) := by
  have hd : dot s = decide (s.data.toList = [46] ∨ s.data.toList.map lowU = [37, 50, 101]) := by
    unfold dot
    rw [← beq_of_iff (dot_iff s.data.toList), beq_dec]
  rw [hd]
  have hl : s.toList = s.data.toList := ByteArray.toList_eq s
  by_cases h : s.data.toList = [46]
  · refine Ev.of (h := fun _ => some true) (fun k => ?_) ?_
    · simp only [gatepostref11_Dot.f]; rw [if_pos (by rw [hl]; exact h)]
    · rw [decide_eq_true (.inl h)]; exact Ev.done true
  · refine Ev.of (h := fun k => (gatepostref10_Small.f k s).bind fun t => some (t.toList == ([37, 50, 101] : List UInt8))) (fun k => ?_) (Ev.bind (small_f s hs) ?_)
    · simp only [gatepostref11_Dot.f]; rw [if_neg (by rw [hl]; exact h)]
    · rw [small_toList]
      have : (s.data.toList.map lowU == ([37, 50, 101] : List UInt8)) = decide (s.data.toList = [46] ∨ s.data.toList.map lowU = [37, 50, 101]) := by
        by_cases h2 : s.data.toList.map lowU = [37, 50, 101]
        · rw [decide_eq_true (.inr h2)]; exact beq_iff_eq.2 h2
        · rw [decide_eq_false (fun k => k.elim h h2)]; exact beq_eq_false_iff_ne.2 h2
      rw [this]; exact Ev.done _
theorem rdots_f (s : ByteArray) (hs : s.size ≤ 1000000) : Ev (fun k => gatepostref11_Dots.f k s) (dots s) := by
  have hd : dots s = decide (s.data.toList.map lowU = [46, 46] ∨ s.data.toList.map lowU = [46, 37, 50, 101] ∨ s.data.toList.map lowU = [37, 50, 101, 46] ∨ s.data.toList.map lowU = [37, 50, 101, 37, 50, 101]) := by
    unfold dots
    rw [← beq_of_iff (dots_iff s.data.toList), beq_dec]
  rw [hd]
  refine Ev.of (fun k => by unfold gatepostref11_Dots.f; rfl) (Ev.bind (small_f s hs) ?_)
  rw [small_toList]
  generalize s.data.toList.map lowU = l
  by_cases h1 : l = [46, 46]
  · rw [if_pos h1, decide_eq_true (.inl h1)]; exact Ev.done _
  rw [if_neg h1]
  by_cases h2 : l = [46, 37, 50, 101]
  · rw [if_pos h2, decide_eq_true (.inr (.inl h2))]; exact Ev.done _
  rw [if_neg h2]
  by_cases h3 : l = [37, 50, 101, 46]
  · rw [if_pos h3, decide_eq_true (.inr (.inr (.inl h3)))]; exact Ev.done _
  rw [if_neg h3]
  by_cases h4 : l = [37, 50, 101, 37, 50, 101]
  · rw [decide_eq_true (.inr (.inr (.inr h4)))]
    rw [beq_iff_eq.2 h4]; exact Ev.done _
  · rw [decide_eq_false (fun k => k.elim h1 (fun k => k.elim h2 (fun k => k.elim h3 h4)))]
    rw [beq_eq_false_iff_ne.2 h4]; exact Ev.done _
end Go.Proofs.Ytedkaedeahobjaa
