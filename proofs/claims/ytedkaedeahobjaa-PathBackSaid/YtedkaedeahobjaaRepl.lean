/- (*strings.genericReplacer).WriteString and Replace for "%2e" and "%2E". -/
import Derived.Test.YtedkaedeahobjaaWrite
namespace Go.Proofs.Ytedkaedeahobjaa
open Go.RowKit Go.Proofs.YtedkaedeahobjaaW.PrintWords
set_option linter.unusedVariables false
set_option linter.unusedSimpArgs false

/-- Every dot that is spelled by its number, plain. -/
def rep : List UInt8 → List UInt8
  | 37 :: 50 :: 101 :: t => 46 :: rep t
  | 37 :: 50 :: 69 :: t => 46 :: rep t
  | x :: t => x :: rep t
  | [] => []
theorem rep_other (x : UInt8) (t : List UInt8) (h : x ≠ 37) : rep (x :: t) = x :: rep t := by
  rw [rep.eq_def]
  split
  · rename_i h1; simp at h1; exact absurd h1.1 h
  · rename_i h1; simp at h1; exact absurd h1.1 h
  · rename_i h1 h2 h3; simp at h3; rw [h3.1, h3.2]
  · rename_i h1; simp at h1
theorem bt_list (l : List UInt8) (i : Nat) : btn ⟨⟨l⟩⟩ i = (l.getD i 0).toNat := by
  have e : (⟨l⟩ : Array UInt8)[i]? = l[i]? := List.getElem?_toArray
  unfold btn
  rw [Array.getD_eq_getD_getElem?, List.getD_eq_getElem?_getD, ← e]
theorem u8_of (x : UInt8) (n : UInt8) (h : x.toNat = n.toNat) : x = n := UInt8.toNat_inj.1 h
theorem lk_list (l : List UInt8) (h : lk ⟨⟨l⟩⟩ = true) : ∃ x t, l = 37 :: 50 :: x :: t ∧ (x = 101 ∨ x = 69) := by
  unfold lk at h
  have h := of_decide_eq_true h
  simp only [bt_list] at h
  obtain ⟨h3, h0, h1, h2⟩ := h
  match l, h3 with
  | a :: b :: c :: t, _ =>
    refine ⟨c, t, ?_, ?_⟩
    · rw [u8_of a 37 h0, u8_of b 50 h1]
    · rcases h2 with h2 | h2
      · exact .inl (u8_of c 101 h2)
      · exact .inr (u8_of c 69 h2)
  | [], h3 => exact absurd h3 (by decide)
  | [a], h3 => exact absurd h3 (by show ¬ 3 ≤ [a].length; simp)
  | [a, b], h3 => exact absurd h3 (by show ¬ 3 ≤ [a, b].length; simp)
theorem rep_yes (l : List UInt8) (h : lk ⟨⟨l⟩⟩ = true) : 3 ≤ l.length ∧ rep l = 46 :: rep (l.drop 3) := by
  obtain ⟨x, t, rfl, rfl | rfl⟩ := lk_list l h
  · exact ⟨by simp, rfl⟩
  · exact ⟨by simp, rfl⟩
theorem rep_no (x : UInt8) (t : List UInt8) (h : lk ⟨⟨x :: t⟩⟩ = false) : rep (x :: t) = x :: rep t := by
  unfold lk at h
  have h := of_decide_eq_false h
  rw [rep.eq_def]
  split
  · rename_i t' h1; exfalso; apply h; rw [h1]; exact ⟨by show 3 ≤ ((37 : UInt8) :: 50 :: 101 :: t').length; simp, rfl, rfl, .inl rfl⟩
  · rename_i t' h1; exfalso; apply h; rw [h1]; exact ⟨by show 3 ≤ ((37 : UInt8) :: 50 :: 69 :: t').length; simp, rfl, rfl, .inr rfl⟩
  · rename_i h1 h2 h3; simp at h3; rw [h3.1, h3.2]
  · rename_i h1; simp at h1
theorem head_bt (s : ByteArray) (i : Nat) (x : UInt8) (t : List UInt8) (h : s.data.toList.drop i = x :: t) : x.toNat = btn s i := by
  have e : s.data.toList[i]? = some x := by
    have := List.getElem?_drop (xs := s.data.toList) (i := i) (j := 0)
    rw [h] at this
    simpa using this.symm
  obtain ⟨⟨l⟩⟩ := s
  rw [bt_list, List.getD_eq_getElem?_getD, e]; rfl
theorem cut_list (s : ByteArray) (i : Nat) : s.extract i s.size = ⟨⟨s.data.toList.drop i⟩⟩ := by
  obtain ⟨⟨l⟩⟩ := s
  apply ByteArray.ext
  rw [ByteArray.data_extract]
  apply Array.toList_inj.1
  rw [Array.toList_extract]
  show (l.extract i l.length) = l.drop i
  rw [List.extract_eq_take_drop]
  exact List.take_of_length_le (by rw [List.length_drop]; omega)
theorem mid_list (s : ByteArray) (i j : Nat) : Lib.strCells (s.extract i j) = Lib.byteCells ((s.data.toList.take j).drop i) := by
  obtain ⟨⟨l⟩⟩ := s
  unfold Lib.strCells Lib.byteCells
  rw [ByteArray.data_extract, Array.toList_extract]
  show (l.extract i j).map _ = _
  rw [List.extract_eq_take_drop, List.drop_take]
/-- What is written, what waits, what is to come. -/
structure Inv (L o : List UInt8) (last i : Nat) : Prop where
  le : last ≤ i
  top : last ≤ L.length
  out : o.length ≤ last
  eq : rep L = o ++ (L.take i).drop last ++ rep (L.drop i)
theorem Inv.start (L : List UInt8) : Inv L [] 0 0 := ⟨Nat.le_refl _, Nat.zero_le _, Nat.le_refl _, by simp⟩
theorem Inv.skip {L o : List UInt8} {last i : Nat} (h : Inv L o last i) (hr : ∀ x t, L.drop i = x :: t → rep (x :: t) = x :: rep t) : Inv L o last (i + 1) := by
  refine ⟨by have := h.le; omega, h.top, h.out, ?_⟩
  rw [h.eq]
  rcases Nat.lt_or_ge i L.length with hi | hi
  · have hd : L.drop i = L[i] :: L.drop (i + 1) := List.drop_eq_getElem_cons hi
    have ht : L.take (i + 1) = L.take i ++ [L[i]] := (List.take_append_getElem hi).symm
    rw [ht, List.drop_append_of_le_length (by rw [List.length_take]; have := h.le; omega)]
    rw [hd, hr _ _ hd]
    simp
  · rw [List.take_of_length_le hi, List.take_of_length_le (show L.length ≤ i + 1 by omega), List.drop_of_length_le hi, List.drop_of_length_le (show L.length ≤ i + 1 by omega)]
theorem Inv.hit {L o : List UInt8} {last i : Nat} (h : Inv L o last i) (hl : lk ⟨⟨L.drop i⟩⟩ = true) : Inv L (o ++ (L.take i).drop last ++ [46]) (i + 3) (i + 3) ∧ i + 3 ≤ L.length := by
  obtain ⟨h3, hr⟩ := rep_yes _ hl
  rw [List.length_drop] at h3
  have := h.le; have := h.out
  refine ⟨⟨Nat.le_refl _, by omega, ?_, ?_⟩, by omega⟩
  · simp only [List.length_append, List.length_drop, List.length_take, List.length_singleton]; omega
  · rw [h.eq, hr, List.drop_drop]
    have : (L.take (i + 3)).drop (i + 3) = [] := List.drop_of_length_le (by rw [List.length_take]; omega)
    rw [this]
    simp
theorem Inv.done {L o : List UInt8} {last i : Nat} (h : Inv L o last i) (hi : L.length < i) : o ++ L.drop last = rep L := by
  rw [h.eq, List.take_of_length_le (by omega), List.drop_of_length_le (by omega : L.length ≤ i)]
  simp [rep]
end Go.Proofs.Ytedkaedeahobjaa
