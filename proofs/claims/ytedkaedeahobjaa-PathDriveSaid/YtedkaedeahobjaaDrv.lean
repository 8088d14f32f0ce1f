/- Plain Lean: the law PathDrive. -/
import Derived.Test.YtedkaedeahobjaaSegs
import Derived.Test.YtedkaedeahobjaaPPthx2
namespace Go.Proofs.Ytedkaedeahobjaa
open Go.RowKit Go.Proofs.Ytedkaedeahobjaa.PPth Go.Proofs.YtedkaedeahobjaaW.PrintWords
set_option linter.unusedVariables false
set_option linter.unusedSimpArgs false

/-- A drive's name: a letter and a sign. -/
def two (c d : UInt8) : ByteArray := ⟨#[c, d]⟩
theorem bt_two0 (c d : UInt8) : bt (two c d) 0 = (c.toNat : Int) := rfl
theorem bt_two1 (c d : UInt8) : bt (two c d) 1 = (d.toNat : Int) := rfl
theorem drv_two (c d : UInt8) (hc : 97 ≤ c.toNat ∧ c.toNat ≤ 122 ∨ 65 ≤ c.toNat ∧ c.toNat ≤ 90) (hd : d = 58 ∨ d = 124) : drv (two c d) = true := by
  unfold drv
  rw [bt_two0, bt_two1, letr_eq _ (by omega)]
  refine decide_eq_true ⟨rfl, decide_eq_true (by omega), ?_⟩
  rcases hd with rfl | rfl
  · exact .inl rfl
  · exact .inr rfl
theorem drive1_two (c d : UInt8) : drive1 (two c d) = two c 58 := rfl
theorem rep_two (c d : UInt8) (hc : c ≠ 37) (hd : d ≠ 37) : rep [c, d] = [c, d] := by rw [rep_other c _ hc, rep_other d _ hd]; rfl
theorem dots_two (c d : UInt8) (hc : c ≠ 37) (hc2 : c ≠ 46) (hd : d ≠ 37) : dots (two c d) = false := by
  unfold dots
  show (rep [c, d] == [46, 46]) = false
  rw [rep_two c d hc hd]
  exact beq_eq_false_iff_ne.2 (fun h => hc2 (by injection h))
theorem dot_two (c d : UInt8) (hc : c ≠ 37) (hd : d ≠ 37) : dot (two c d) = false := by
  unfold dot
  show (rep [c, d] == [46]) = false
  rw [rep_two c d hc hd]
  exact beq_eq_false_iff_ne.2 (fun h => by injection h with _ h; cases h)
def fileB : ByteArray := ⟨#[102, 105, 108, 101]⟩
theorem fileB_list : fileB.toList = fileL := by rw [ByteArray.toList_eq]; rfl
/-- A path that begins with a given drive. -/
def Begins (x : ByteArray) (a : List ByteArray) : Prop := 0 < a.length ∧ rdOf ByteArray.empty a 0 = x
theorem Begins.add {c : UInt8} {a : List ByteArray} (h : Begins (two c 58) a) (hc : 97 ≤ c.toNat ∧ c.toNat ≤ 122) (s : ByteArray) (b : Bool) : Begins (two c 58) (addL fileB a s b) := by
  have hsh : Begins (two c 58) (shL fileB a) := by
    unfold shL
    split
    · exact h
    · rename_i hns
      obtain ⟨h0, h1⟩ := h
      have h2 : 2 ≤ a.length := by
        rcases Nat.lt_or_ge a.length 2 with h2 | h2
        · exfalso
          apply hns
          unfold stays
          refine decide_eq_true (.inr ⟨fileB_list, by omega, ?_, ?_⟩)
          · rw [h1]; exact drv_two c 58 (.inl hc) (.inl rfl)
          · rw [h1]; rfl
        · exact h2
      refine ⟨by rw [List.length_take]; omega, ?_⟩
      rw [← h1]
      unfold rdOf
      simp only [List.getD_eq_getElem?_getD]
      rw [List.getElem?_take_of_lt (by show (0 : Int).toNat < _; simp; omega)]
  have happ : ∀ {a : List ByteArray} (x : ByteArray), Begins (two c 58) a → Begins (two c 58) (a ++ [x]) := by
    intro a x ha
    obtain ⟨h0, h1⟩ := ha
    refine ⟨by rw [List.length_append]; omega, ?_⟩
    rw [← h1]
    unfold rdOf
    simp only [List.getD_eq_getElem?_getD]
    rw [List.getElem?_append_left (by show (0 : Int).toNat < _; simpa using h0)]
  unfold addL
  split
  · split
    · exact happ _ hsh
    · exact hsh
  split
  · split
    · exact happ _ h
    · exact h
  split
  · rename_i hh; exact absurd hh.2.1 (by have := h.1; omega)
  · exact happ _ h
theorem drive_loop (c : UInt8) (hc : 97 ≤ c.toNat ∧ c.toNat ≤ 122) (l : List ByteArray) (hl : l.length ≤ 20) (hs : ∀ x ∈ l, x.size ≤ 60) : ∀ m i (a : List ByteArray), l.length - i = m → i ≤ l.length → a.length ≤ i + 1 → Begins (two c 58) a →
    Ev (fun k => gatepostlaw11_PathDrive.l0 k l true (two c 124) a (i : Int)) true := by
  intro m
  induction m with
  | zero =>
    intro i a hm hi ha hb
    obtain ⟨h0, h1⟩ := hb
    refine Ev.succ (h := fun _ => some true) (fun k => ?_) (Ev.done _)
    simp only [gatepostlaw11_PathDrive.l0]
    rw [if_neg (by omega), if_pos trivial, if_pos (by omega), if_pos (by omega), if_pos (by decide), if_pos (by show (1 : Int) ≤ 2; decide), if_pos (by rw [ByteArray.size_extract]; show min 1 2 - 0 + 1 ≤ 9223372036854775807; decide), h1, if_pos (congrArg ByteArray.toList (show two c 58 = (two c 124).extract 0 1 ++ ⟨#[58]⟩ from rfl)), if_pos (by omega), shorten_f _ _ (by rw [List.length_take]; omega)]
    have hst : shL (⟨#[102, 105, 108, 101]⟩ : ByteArray) (a.take 1) = a.take 1 := by
      unfold shL
      rw [if_pos]
      unfold stays
      have e : rdOf ByteArray.empty (a.take 1) 0 = two c 58 := by
        rw [← h1]
        unfold rdOf
        simp only [List.getD_eq_getElem?_getD]
        rw [List.getElem?_take_of_lt (by decide)]
      refine decide_eq_true (.inr ⟨fileB_list, by rw [List.length_take]; omega, ?_, ?_⟩)
      · rw [e]; exact drv_two c 58 (.inl hc) (.inl rfl)
      · rw [e]; rfl
    show some _ = some true
    rw [hst, List.length_take, show min 1 a.length = 1 by omega]
    rfl
  | succ m ih =>
    intro i a hm hi ha hb
    have hm' : rdOf ByteArray.empty l (i : Int) ∈ l := rdOf_mem' l i (by omega)
    have hi1 := ih (i + 1) (addL fileB a (rdOf ByteArray.empty l (i : Int)) false) (by omega) (by omega) (by have := addL_len fileB a (rdOf ByteArray.empty l (i : Int)) false; omega) (hb.add hc _ _)
    have hw := wrap64_id ((i : Int) + 1) (by omega) (by omega)
    refine Ev.succ (h := fun k => gatepostlaw11_PathDrive.l0 k l true (two c 124) (addL fileB a (rdOf ByteArray.empty l (i : Int)) false) (((i + 1 : Nat)) : Int)) (fun k => ?_) hi1
    simp only [gatepostlaw11_PathDrive.l0]
    rw [if_pos (by omega), if_pos (by omega), add_f _ _ _ _ (by omega) (by have := hs _ hm'; omega), hw]
    rfl
theorem drive_name (a0 : Int) (h : 0 ≤ a0 ∧ a0 ≤ 255) : ∃ c : UInt8, (97 ≤ c.toNat ∧ c.toNat ≤ 122) ∧ strOfNums [(97 + Int.tmod a0 26) % 256, 124] = two c 124 := by
  refine ⟨UInt8.ofNat ((97 + Int.tmod a0 26) % 256).toNat, ?_, rfl⟩
  have h1 : Int.tmod a0 26 = a0 % 26 := Int.tmod_eq_emod_of_nonneg h.1
  rw [h1]
  have h2 : ((97 + a0 % 26) % 256).toNat < 256 := by omega
  rw [UInt8.toNat_ofNat_of_lt' h2]
  omega
theorem drive_pure (a0 : Int) (h : 0 ≤ a0 ∧ a0 ≤ 255) (l : List ByteArray) : ∃ k, gatepostlaw11_PathDrive.f k a0 l = some true := by
  apply Ev.at
  unfold gatepostlaw11_PathDrive.f
  refine Ev.bind1 awake_f (Ev.bind (few_f l) ?_)
  by_cases hf : few l = true
  · rw [hf]
    refine Ev.yes rfl ?_
    obtain ⟨c, hc, hd⟩ := drive_name a0 h
    have hc37 : c ≠ 37 := fun e => by subst e; exact absurd hc (by decide)
    have hc46 : c ≠ 46 := fun e => by subst e; exact absurd hc (by decide)
    refine Ev.bind1 rfl ?_
    rw [hd]
    have ha : addL fileB [] (two c 124) false = [two c 58] := by
      unfold addL
      rw [if_neg (by rw [dots_two c 124 hc37 hc46 (by decide)]; decide), if_neg (by rw [dot_two c 124 hc37 (by decide)]; decide), if_pos ⟨fileB_list, rfl, drv_two c 124 (.inl hc) (.inr rfl)⟩]
      rfl
    refine Ev.bind1 (add_f _ _ _ _ (by simp) (by show 2 ≤ _; decide)) ?_
    obtain ⟨hl, hs⟩ := of_decide_eq_true hf
    have hgo := drive_loop c hc l hl hs _ 0 [two c 58] rfl (by omega) (by simp) ⟨by simp, rfl⟩
    rw [← ha] at hgo
    exact hgo
  · rw [Bool.eq_false_iff.2 hf]
    exact Ev.no (by decide) (Ev.done _)
end Go.Proofs.Ytedkaedeahobjaa
