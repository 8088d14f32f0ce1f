/- Plain Lean: the reference's Decode, and the five statements of chapter 03 on plain functions. -/
import Derived.Test.YtbdiklhffngjmaaAll
namespace Go.Proofs.Ytbdiklhffngjmaa
open Go.RowKit Go.Proofs.Ytbdiklhffngjmaa.Uni Go.Proofs.Ytbdiklhffngjmaa.PPct Go.Proofs.YtbdiklhffngjmaaW.PrintWords
set_option linter.unusedVariables false
set_option linter.unusedSimpArgs false

/-! ### 3. The reference's Decode -/
theorem refValue_f (c : Int) (h0 : 0 ≤ c) (h1 : c ≤ 255) : Ev (fun k => gatepostref03_Value.f k c) (val c) := by
  have w1 : wrap64 c = c := wrap64_id _ (by omega) (by omega)
  have w2 : wrap64 (c - 48) = c - 48 := wrap64_id _ (by omega) (by omega)
  have w3 : wrap64 (wrap64 (c - 65) + 10) = c - 55 := by rw [wrap64_id (c - 65) (by omega) (by omega), wrap64_id _ (by omega) (by omega)]; omega
  have w4 : wrap64 (wrap64 (c - 97) + 10) = c - 87 := by rw [wrap64_id (c - 97) (by omega) (by omega), wrap64_id _ (by omega) (by omega)]; omega
  refine ⟨2, fun k hk => ?_⟩
  obtain ⟨m, rfl⟩ : ∃ m, k = m + 2 := ⟨k - 2, by omega⟩
  have hj1 : ∀ b : Bool, b = decide (65 ≤ c ∧ c ≤ 70) → ¬ (48 ≤ c ∧ c ≤ 57) → gatepostref03_Value.j1 (m + 1) c b = some (val c) := by
    intro b hb h48
    simp only [gatepostref03_Value.j1]
    unfold val
    rw [if_neg h48]
    by_cases h2 : 65 ≤ c ∧ c ≤ 70
    · rw [hb, decide_eq_true h2, if_pos rfl, if_pos h2, w1, w3]
    · rw [hb, decide_eq_false h2, if_neg (by decide), if_neg h2]
      by_cases h3 : c ≥ 97
      · rw [if_pos h3]
        by_cases h4 : c ≤ 102
        · rw [if_pos h4, if_pos ⟨h3, h4⟩, w1, w4]
        · rw [if_neg h4, if_neg (fun e => h4 e.2)]
      · rw [if_neg h3, if_neg (fun e => h3 e.1)]
  have hj0 : ∀ b : Bool, b = decide (48 ≤ c ∧ c ≤ 57) → gatepostref03_Value.j0 (m + 2) c b = some (val c) := by
    intro b hb
    simp only [gatepostref03_Value.j0]
    by_cases h2 : 48 ≤ c ∧ c ≤ 57
    · rw [hb, decide_eq_true h2, if_pos rfl, w1, w2]
      unfold val
      rw [if_pos h2]
    · rw [hb, decide_eq_false h2, if_neg (by decide)]
      by_cases h3 : c ≥ 65
      · rw [if_pos h3]
        refine hj1 _ ?_ h2
        by_cases h4 : c ≤ 70 <;> simp [h4] <;> omega
      · rw [if_neg h3]
        refine hj1 _ ?_ h2
        rw [decide_eq_false (by omega)]
  show gatepostref03_Value.f (m + 2) c = some (val c)
  unfold gatepostref03_Value.f
  by_cases h2 : c ≥ 48
  · rw [if_pos h2]
    refine hj0 _ ?_
    by_cases h4 : c ≤ 57 <;> simp [h4] <;> omega
  · rw [if_neg h2]
    refine hj0 _ ?_
    rw [decide_eq_false (by omega)]
theorem refDec_plain (s : ByteArray) (hs : s.size ≤ 1000000000) (i : Nat) (hi : i < s.size) (acc : List Int) (ha : acc.length ≤ i) {r : ByteArray}
    (h : Ev (fun k => gatepostref03_Decode.l0 k s (acc ++ [bt s (i : Int)]) (((i + 1 : Nat)) : Int)) r) : Ev (fun k => gatepostref03_Decode.j1 k s acc (i : Int) false) r := by
  have hw := wrap64_id ((i : Int) + 1) (by omega) (by omega)
  refine Ev.succ (fun k => ?_) h
  simp only [gatepostref03_Decode.j1]
  rw [if_neg (by decide), if_pos (by omega), if_pos (by omega), if_pos (by omega), hw]
  rfl
theorem refDec_sign (s : ByteArray) (hs : s.size ≤ 1000000000) (i : Nat) (hi : i + 2 < s.size) (acc : List Int) (ha : acc.length ≤ i) {r : ByteArray} (h1 : 0 ≤ val (bt s ((i : Int) + 1))) (h2 : 0 ≤ val (bt s ((i : Int) + 2)))
    (h : Ev (fun k => gatepostref03_Decode.l0 k s (acc ++ [val (bt s ((i : Int) + 1)) * 16 + val (bt s ((i : Int) + 2))]) (((i + 3 : Nat)) : Int)) r) : Ev (fun k => gatepostref03_Decode.j1 k s acc (i : Int) true) r := by
  have hw1 := wrap64_id ((i : Int) + 1) (by omega) (by omega)
  have hw2 := wrap64_id ((i : Int) + 2) (by omega) (by omega)
  have hw3 := wrap64_id ((i : Int) + 3) (by omega) (by omega)
  have b1 := bt_range s ((i : Int) + 1)
  have b2 := bt_range s ((i : Int) + 2)
  have v1 := refValue_f _ b1.1 b1.2
  have v2 := refValue_f _ b2.1 b2.2
  have r1 := val_range (bt s ((i : Int) + 1))
  have r2 := val_range (bt s ((i : Int) + 2))
  refine Ev.succ (h := fun k => (gatepostref03_Value.f k (bt s ((i : Int) + 1))).bind fun t168 => (gatepostref03_Value.f k (bt s ((i : Int) + 2))).bind fun t169 => (gatepostref03_Decode.l0 k s (acc ++ [(wrap64 ((wrap64 (16 * t168)) + t169)) % 256]) (wrap64 ((i : Int) + 3)))) (fun k => ?_) (Ev.bind v1 (Ev.bind v2 (Ev.of (fun k => ?_) h)))
  · simp only [gatepostref03_Decode.j1]
    rw [if_pos trivial, hw1, hw2]
    rw [if_pos (by omega), if_pos (by omega)]
    congr 1
    funext t168
    rw [if_pos (by omega), if_pos (by omega)]
    congr 1
    funext t169
    rw [if_pos (by omega)]
  · rw [hw3, wrap64_id (16 * _) (by omega) (by omega), wrap64_id _ (by omega) (by omega), Int.emod_eq_of_lt (by omega) (by omega), show 16 * val (bt s ((i : Int) + 1)) = val (bt s ((i : Int) + 1)) * 16 by omega]
    rfl
theorem refDec_l0 (s : ByteArray) (hs : s.size ≤ 1000000000) (n : Nat) : ∀ i (acc : List Int), s.size - i ≤ n → i ≤ s.size → acc.length ≤ i →
    Ev (fun k => gatepostref03_Decode.l0 k s acc (i : Int)) (strOfNums (acc ++ decL ((bytesOf s).drop i))) := by
  induction n with
  | zero =>
    intro i acc hn hi ha
    obtain rfl : i = s.size := by omega
    rw [List.drop_eq_nil_of_le (by rw [bytesOf_length]; exact Nat.le_refl _), decL_nil, List.append_nil]
    refine Ev.succ (h := fun _ => some (strOfNums acc)) (fun k => ?_) (Ev.done _)
    simp only [gatepostref03_Decode.l0]; rw [if_neg (by omega)]
  | succ n ih =>
    intro i acc hn hi ha
    by_cases hlt : i < s.size
    · have hd := decL_at (bytesOf s) i (by rw [bytesOf_length]; exact hlt)
      simp only [rd_bytesOf, bytesOf_length] at hd
      have hw1 := wrap64_id ((i : Int) + 1) (by omega) (by omega)
      have hw2 := wrap64_id ((i : Int) + 2) (by omega) (by omega)
      have b1 := bt_range s ((i : Int) + 1)
      have b2 := bt_range s ((i : Int) + 2)
      have v1 := refValue_f _ b1.1 b1.2
      have v2 := refValue_f _ b2.1 b2.2
      have no : ¬ (bt s (i : Int) = 37 ∧ i + 2 < s.size ∧ 0 ≤ val (bt s ((i : Int) + 1)) ∧ 0 ≤ val (bt s ((i : Int) + 2))) → Ev (fun k => gatepostref03_Decode.j1 k s acc (i : Int) false) (strOfNums (acc ++ decL ((bytesOf s).drop i))) := by
        intro hno
        rw [if_neg hno] at hd
        refine refDec_plain s hs i hlt acc ha ?_
        have := ih (i + 1) (acc ++ [bt s (i : Int)]) (by omega) (by omega) (by simp; omega)
        rw [hd]
        simpa using this
      by_cases h2 : i + 2 < s.size
      · by_cases h37 : bt s (i : Int) = 37
        · by_cases hv1 : 0 ≤ val (bt s ((i : Int) + 1))
          · refine Ev.succ (h := fun k => (gatepostref03_Value.f k (bt s ((i : Int) + 1))).bind fun t166 => (if t166 ≥ 0 then (if 0 ≤ (i : Int) + 2 then ((gatepostref03_Value.f k (bt s ((i : Int) + 2))).bind fun t167 => (gatepostref03_Decode.j1 k s acc (i : Int) (decide (t167 ≥ 0)))) else (none)) else (gatepostref03_Decode.j1 k s acc (i : Int) false))) (fun k => ?_) (Ev.bind v1 (Ev.of (h := fun k => (gatepostref03_Value.f k (bt s ((i : Int) + 2))).bind fun t167 => (gatepostref03_Decode.j1 k s acc (i : Int) (decide (t167 ≥ 0)))) (fun k => ?_) (Ev.bind v2 ?_)))
            · simp only [gatepostref03_Decode.l0]
              rw [if_pos (by omega), hw2, hw1, if_pos (by omega), if_pos (by omega), if_pos h37, if_pos (by omega), if_pos (by omega)]
            · rw [if_pos hv1, if_pos (by omega)]
            · by_cases hv2 : 0 ≤ val (bt s ((i : Int) + 2))
              · rw [if_pos ⟨h37, h2, hv1, hv2⟩] at hd
                rw [decide_eq_true hv2]
                refine refDec_sign s hs i h2 acc ha hv1 hv2 ?_
                have := ih (i + 3) (acc ++ [val (bt s ((i : Int) + 1)) * 16 + val (bt s ((i : Int) + 2))]) (by omega) (by omega) (by simp; omega)
                rw [hd]
                simpa using this
              · rw [decide_eq_false hv2]
                exact no (fun e => hv2 e.2.2.2)
          · refine Ev.succ (h := fun k => (gatepostref03_Value.f k (bt s ((i : Int) + 1))).bind fun t166 => (if t166 ≥ 0 then (if 0 ≤ (i : Int) + 2 then ((gatepostref03_Value.f k (bt s ((i : Int) + 2))).bind fun t167 => (gatepostref03_Decode.j1 k s acc (i : Int) (decide (t167 ≥ 0)))) else (none)) else (gatepostref03_Decode.j1 k s acc (i : Int) false))) (fun k => ?_) (Ev.bind v1 (Ev.of (fun k => ?_) (no (fun e => hv1 e.2.2.1))))
            · simp only [gatepostref03_Decode.l0]
              rw [if_pos (by omega), hw2, hw1, if_pos (by omega), if_pos (by omega), if_pos h37, if_pos (by omega), if_pos (by omega)]
            · rw [if_neg hv1]
        · refine Ev.succ (fun k => ?_) (no (fun e => h37 e.1))
          simp only [gatepostref03_Decode.l0]
          rw [if_pos (by omega), hw2, if_pos (by omega), if_pos (by omega), if_neg h37]
      · refine Ev.succ (fun k => ?_) (no (fun e => h2 e.2.1))
        simp only [gatepostref03_Decode.l0]
        rw [if_pos (by omega), hw2, if_neg (by omega)]
    · obtain rfl : i = s.size := by omega
      rw [List.drop_eq_nil_of_le (by rw [bytesOf_length]; exact Nat.le_refl _), decL_nil, List.append_nil]
      refine Ev.succ (h := fun _ => some (strOfNums acc)) (fun k => ?_) (Ev.done _)
      simp only [gatepostref03_Decode.l0]; rw [if_neg (by omega)]
theorem refDec_f (s : ByteArray) (hs : s.size ≤ 1000000000) : Ev (fun k => gatepostref03_Decode.f k s) (strOfNums (decL (bytesOf s))) := by
  have := refDec_l0 s hs s.size 0 [] (by omega) (by omega) (by simp)
  simpa [gatepostref03_Decode.f] using this
end Go.Proofs.Ytbdiklhffngjmaa
