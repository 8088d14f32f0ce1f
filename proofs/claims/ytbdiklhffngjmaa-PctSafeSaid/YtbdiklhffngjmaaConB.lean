/- What the reference's Encode and Decode of chapter 02 come to, as plain functions on lists of numbers. -/
import Derived.Test.YtbdiklhffngjmaaConA
import Derived.Test.YtbdiklhffngjmaaPPctx
import Derived.Lib.Strings
namespace Go.Proofs.Ytbdiklhffngjmaa.Uni
open Go.RowKit Go.Proofs.Ytbdiklhffngjmaa.PPct Go.Proofs.YtbdiklhffngjmaaW.PrintWords Go.Proofs.YtbdiklhffngjmaaW.PrintLast Go.Proofs.YtbdiklhffngjmaaW.PrintMore
set_option linter.unusedVariables false
set_option linter.unusedSimpArgs false

/-! ### 3. the reference's Encode -/
theorem scalar_f (c : Int) : gatepostref02_Scalar.f c = some (decide (Scalar c)) := by
  unfold gatepostref02_Scalar.f
  by_cases h1 : c ≥ 0
  · rw [if_pos h1]
    by_cases h2 : c ≤ 1114111
    · rw [if_pos h2]
      by_cases h3 : c < 55296
      · rw [if_pos h3, decide_eq_true (show Scalar c by unfold Scalar; omega)]
      · rw [if_neg h3]
        by_cases h4 : c > 57343
        · rw [decide_eq_true h4, decide_eq_true (show Scalar c by unfold Scalar; omega)]
        · rw [decide_eq_false h4, decide_eq_false (show ¬ Scalar c by unfold Scalar; omega)]
    · rw [if_neg h2, decide_eq_false (show ¬ Scalar c by unfold Scalar; omega)]
  · rw [if_neg h1, decide_eq_false (show ¬ Scalar c by unfold Scalar; omega)]
theorem bytes_f (c : Int) (h : Scalar c) : gatepostref02_bytes.f c = some (enc1 c) := by
  unfold gatepostref02_bytes.f enc1
  rw [if_pos h]
  unfold Scalar at h
  have t1 : ∀ n : Int, 0 < n → Int.tdiv c n = c / n := fun n hn => Int.tdiv_eq_ediv_of_nonneg h.1
  have t2 : ∀ n : Int, Int.tmod c n = c % n := fun n => Int.tmod_eq_emod_of_nonneg h.1
  by_cases h1 : c < 128
  · rw [if_pos h1, if_pos h1, show c % 256 = c by omega]
  rw [if_neg h1, if_neg h1]
  by_cases h2 : c < 2048
  · rw [if_pos h2, if_pos h2, t1 64 (by omega), t2 64]
    unfold wrap32
    congr 2
    · omega
    · congr 1; omega
  rw [if_neg h2, if_neg h2]
  have t3 : Int.tmod (wrap32 (c / 64)) 64 = c / 64 % 64 := by
    rw [show wrap32 (c / 64) = c / 64 by unfold wrap32; omega]; exact Int.tmod_eq_emod_of_nonneg (by omega)
  have t4 : Int.tmod (wrap32 (c / 4096)) 64 = c / 4096 % 64 := by
    rw [show wrap32 (c / 4096) = c / 4096 by unfold wrap32; omega]; exact Int.tmod_eq_emod_of_nonneg (by omega)
  by_cases h3 : c < 65536
  · rw [if_pos h3, if_pos h3, t1 64 (by omega), t1 4096 (by omega), t2 64, t3]
    unfold wrap32
    congr 2
    · omega
    · congr 1
      · omega
      · congr 1; omega
  rw [if_neg h3, if_neg h3, t1 64 (by omega), t1 4096 (by omega), t1 262144 (by omega), t2 64, t3, t4]
  unfold wrap32
  congr 2
  · omega
  · congr 1
    · omega
    · congr 1
      · omega
      · congr 1; omega
theorem refEncode_l0 (l : List Int) (d : Nat) : ∀ (k : Nat) (acc : List Int) (i : Int), 0 ≤ i → i ≤ l.length → (l.length : Int) - i = d → d < k → acc.length + 4 * d + 4 < 140737488355328 → l.length ≤ 140737488355328 →
    gatepostref02_Encode.l0 k l acc i = some (strOfNums (acc ++ enc (l.drop i.toNat))) := by
  induction d with
  | zero =>
    intro k acc i h0 h1 hd hk hl hn
    obtain ⟨k, rfl⟩ : ∃ m, k = m + 1 := ⟨k - 1, by omega⟩
    simp only [gatepostref02_Encode.l0]
    rw [if_neg (by omega), List.drop_eq_nil_of_le (by omega)]
    simp [enc]
  | succ d ih =>
    intro k acc i h0 h1 hd hk hl hn
    obtain ⟨k, rfl⟩ : ∃ m, k = m + 1 := ⟨k - 1, by omega⟩
    have hlt : i < (l.length : Int) := by omega
    simp only [gatepostref02_Encode.l0]
    have hlen := (enc1_len (rd l i)).2
    rw [if_pos hlt, if_pos h0, scalar_f]
    simp only [Option.bind_some, List.length_cons, List.length_nil]
    by_cases hs : Scalar (rd l i)
    · rw [decide_eq_true hs, bytes_f _ hs]
      simp only [if_true, Option.bind_some]
      rw [if_pos (by omega), wrap_next i _ h0 hlt hn, ih k _ (i + 1) (by omega) (by omega) (by omega) (by omega) (by rw [List.length_append]; omega) hn, drop_rd l i h0 hlt, enc_cons, List.append_assoc]
    · rw [decide_eq_false hs]
      simp only [Bool.false_eq_true, if_false]
      have he : enc1 (rd l i) = [239, 191, 189] := by unfold enc1; rw [if_neg hs]
      rw [if_pos (by omega), wrap_next i _ h0 hlt hn, ih k _ (i + 1) (by omega) (by omega) (by omega) (by omega) (by rw [List.length_append]; simp; omega) hn, drop_rd l i h0 hlt, enc_cons, he, List.append_assoc]
theorem refEncode (l : List Int) (hn : l.length ≤ 10000000000) (k : Nat) (hk : l.length < k) : gatepostref02_Encode.f k l = some (strOfNums (enc l)) := by
  unfold gatepostref02_Encode.f
  have := refEncode_l0 l l.length k [] 0 (by omega) (by omega) (by omega) (by omega) (by simp; omega) (by omega)
  simpa using this
/-! ### 3. the reference's Decode -/
def manyOf (c : Int) : Int := if c < 128 then 1 else if 194 ≤ c ∧ c ≤ 223 then 2 else if 224 ≤ c ∧ c ≤ 239 then 3 else if 240 ≤ c ∧ c ≤ 244 then 4 else 0
theorem many_f (c : Int) (k : Nat) (hk : 2 ≤ k) : gatepostref02_many.f k c = some (manyOf c) := by
  obtain ⟨k, rfl⟩ : ∃ m, k = m + 2 := ⟨k - 2, by omega⟩
  unfold gatepostref02_many.f manyOf
  have j1 : ∀ (k : Nat) (b : Bool), b = decide (224 ≤ c ∧ c ≤ 239) → gatepostref02_many.j1 (k + 1) c b = some (if 224 ≤ c ∧ c ≤ 239 then 3 else if 240 ≤ c ∧ c ≤ 244 then 4 else 0) := by
    intro k b hb
    rw [gatepostref02_many.j1]
    by_cases h : 224 ≤ c ∧ c ≤ 239
    · rw [hb, decide_eq_true h, if_pos rfl, if_pos h]
    · rw [hb, decide_eq_false h, if_neg (by simp), if_neg h]
      by_cases h4 : 240 ≤ c ∧ c ≤ 244
      · rw [if_pos h4.1, if_pos h4.2, if_pos h4]
      · rw [if_neg h4]
        by_cases h5 : c ≥ 240
        · rw [if_pos h5, if_neg (by omega)]
        · rw [if_neg h5]
  have j0 : ∀ (b : Bool), b = decide (194 ≤ c ∧ c ≤ 223) → gatepostref02_many.j0 (k + 1 + 1) c b = some (if 194 ≤ c ∧ c ≤ 223 then 2 else if 224 ≤ c ∧ c ≤ 239 then 3 else if 240 ≤ c ∧ c ≤ 244 then 4 else 0) := by
    intro b hb
    rw [gatepostref02_many.j0]
    by_cases h : 194 ≤ c ∧ c ≤ 223
    · rw [hb, decide_eq_true h, if_pos rfl, if_pos h]
    · rw [hb, decide_eq_false h, if_neg (by simp), if_neg h]
      by_cases h4 : c ≥ 224
      · rw [if_pos h4]; exact j1 k _ (by simp [h4])
      · rw [if_neg h4]; exact j1 k _ (by simp; omega)
  by_cases h : c < 128
  · rw [if_pos h, if_pos h]
  rw [if_neg h, if_neg h]
  by_cases h4 : c ≥ 194
  · rw [if_pos h4]; exact j0 _ (by simp [h4])
  · rw [if_neg h4]; exact j0 _ (by simp; omega)
theorem follows_f (a c i : Int) (k : Nat) (hk : 1 ≤ k) : gatepostref02_follows.f k a c i = some (decide (128 ≤ c ∧ c ≤ 191 ∧ (1 < i ∨ (lo2 a ≤ c ∧ c ≤ hi2 a)))) := by
  obtain ⟨k, rfl⟩ : ∃ m, k = m + 1 := ⟨k - 1, by omega⟩
  unfold gatepostref02_follows.f
  by_cases h1 : c < 128
  · rw [if_pos h1, gatepostref02_follows.j0, if_pos rfl, decide_eq_false (by omega)]
  rw [if_neg h1]
  by_cases h2 : c > 191
  · rw [decide_eq_true h2, gatepostref02_follows.j0, if_pos rfl, decide_eq_false (by omega)]
  rw [decide_eq_false h2, gatepostref02_follows.j0, if_neg (by simp)]
  by_cases h3 : i > 1
  · rw [if_pos h3, decide_eq_true (by omega)]
  rw [if_neg h3]
  unfold lo2 hi2
  by_cases a1 : a = 224
  · subst a1
    by_cases b : c < 160
    · simp [b]; omega
    · simp [b]; omega
  by_cases a2 : a = 237
  · subst a2
    by_cases b : c > 159
    · simp [b]; omega
    · simp [b]; omega
  by_cases a3 : a = 240
  · subst a3
    by_cases b : c < 144
    · simp [b]; omega
    · simp [b]; omega
  by_cases a4 : a = 244
  · subst a4
    by_cases b : c > 143
    · simp [b]; omega
    · simp [b]; omega
  · simp [a1, a2, a3, a4]; omega

/-- How many bytes are the longest begin of some scalar's. -/
def beg (b0 b1 b2 b3 : Int) : Int :=
  if manyOf b0 ≤ 1 then manyOf b0
  else if ¬ (lo2 b0 ≤ b1 ∧ b1 ≤ hi2 b0) then 1
  else if manyOf b0 = 2 then 2
  else if ¬ (128 ≤ b2 ∧ b2 ≤ 191) then 2
  else if manyOf b0 = 3 then 3
  else if ¬ (128 ≤ b3 ∧ b3 ≤ 191) then 3 else 4
theorem lohi (b : Int) : 128 ≤ lo2 b ∧ hi2 b ≤ 191 := by
  unfold lo2 hi2
  repeat' split
  all_goals omega
/-- One round of begin's loop. -/
theorem begin_round (s : ByteArray) (at_ : Nat) (n : Int) (j : Nat) (k : Nat) (hk : 1 ≤ k) (ha : at_ < s.size) (hs : s.size ≤ 10000000000) (hj : 1 ≤ j) (hj3 : j ≤ 4) :
    gatepostref02_begin.l0 (k + 1) s (at_ : Int) n (j : Int) =
      if (j : Int) < n ∧ (128 ≤ g s (at_ + j) ∧ g s (at_ + j) ≤ 191 ∧ (1 < (j : Int) ∨ (lo2 (g s at_) ≤ g s (at_ + j) ∧ g s (at_ + j) ≤ hi2 (g s at_)))) then gatepostref02_begin.l0 k s (at_ : Int) n ((j + 1 : Nat) : Int) else some (j : Int) := by
  rw [gatepostref02_begin.l0, if_pos (by omega)]
  by_cases h1 : (j : Int) < n
  · rw [if_pos h1]
    have e1 : wrap64 ((at_ : Int) + (j : Int)) = ((at_ + j : Nat) : Int) := by unfold wrap64; omega
    have e2 : wrap64 ((j : Int) + 1) = ((j + 1 : Nat) : Int) := by unfold wrap64; omega
    rw [e1, e2]
    rcases Nat.lt_or_ge (at_ + j) s.size with h2 | h2
    · rw [if_pos (by omega), if_pos (by omega), if_pos (by omega), if_pos (by omega), follows_f _ _ _ k hk, g_in s at_ ha, g_in s (at_ + j) h2]
      simp only [Option.bind_some, decide_eq_true_eq]
      by_cases h3 : 128 ≤ g s (at_ + j) ∧ g s (at_ + j) ≤ 191 ∧ (1 < (j : Int) ∨ (lo2 (g s at_) ≤ g s (at_ + j) ∧ g s (at_ + j) ≤ hi2 (g s at_)))
      · rw [if_pos h3, if_pos ⟨h1, h3⟩]
      · rw [if_neg h3, if_neg (fun h => h3 h.2)]
    · rw [if_neg (by omega), g_out s _ h2, if_neg (by omega)]
  · rw [if_neg h1, if_neg (fun h => h1 h.1)]
theorem begin_f (s : ByteArray) (at_ : Nat) (k : Nat) (hk : 10 ≤ k) (ha : at_ < s.size) (hs : s.size ≤ 10000000000) :
    gatepostref02_begin.f k s (at_ : Int) = some (beg (g s at_) (g s (at_ + 1)) (g s (at_ + 2)) (g s (at_ + 3))) := by
  obtain ⟨k, rfl⟩ : ∃ m, k = m + 6 := ⟨k - 6, by omega⟩
  unfold gatepostref02_begin.f
  rw [if_pos (by omega), if_pos (by omega), many_f _ _ (by omega), g_in s at_ ha]
  simp only [Option.bind_some]
  have R := fun (k j : Nat) (h1 : 1 ≤ k) (h2 : 1 ≤ j) (h3 : j ≤ 4) => begin_round s at_ (manyOf (g s at_)) j k h1 ha hs h2 h3
  have hlh := lohi (g s at_)
  generalize hb : g s at_ = b at *
  unfold beg
  have hm : manyOf b = 0 ∨ manyOf b = 1 ∨ manyOf b = 2 ∨ manyOf b = 3 ∨ manyOf b = 4 := by
    unfold manyOf
    repeat' split
    all_goals simp
  have r1 := R (k + 5) 1 (by omega) (by omega) (by omega)
  have r2 := R (k + 4) 2 (by omega) (by omega) (by omega)
  have r3 := R (k + 3) 3 (by omega) (by omega) (by omega)
  have r4 := R (k + 2) 4 (by omega) (by omega) (by omega)
  generalize hmb : manyOf b = m at *
  by_cases h0 : m = 0
  · subst h0
    rw [if_pos (by omega), show mn 0 1 = 0 from rfl, gatepostref02_begin.l0, if_neg (by omega)]
  rw [show mn m 1 = ((1 : Nat) : Int) by unfold mn; split <;> omega, r1]
  by_cases h1 : m = 1
  · subst h1
    rw [if_neg (by omega), if_pos (by omega)]; rfl
  rw [if_neg (show ¬ m ≤ 1 by omega)]
  by_cases c1 : lo2 b ≤ g s (at_ + 1) ∧ g s (at_ + 1) ≤ hi2 b
  · rw [if_pos (by omega), r2, if_neg (not_not_intro c1)]
    by_cases h2 : m = 2
    · rw [if_neg (by omega), if_pos h2]; rfl
    rw [if_neg h2]
    by_cases c2 : 128 ≤ g s (at_ + 2) ∧ g s (at_ + 2) ≤ 191
    · rw [if_pos (by omega), r3, if_neg (not_not_intro c2)]
      by_cases h3 : m = 3
      · rw [if_neg (by omega), if_pos h3]; rfl
      rw [if_neg h3]
      by_cases c3 : 128 ≤ g s (at_ + 3) ∧ g s (at_ + 3) ≤ 191
      · rw [if_pos (by omega), r4, if_neg (not_not_intro c3), if_neg (by omega)]; rfl
      · rw [if_neg (by omega), if_pos c3]; rfl
    · rw [if_neg (by omega), if_pos c2]; rfl
  · rw [if_neg (by omega), if_pos c1]; rfl

theorem value_round (t : ByteArray) (k : Nat) (c : Int) (j : Nat) (hj : j < t.size) (ht : t.size ≤ 4) (hc : 0 ≤ c ∧ c < 16777216) (hb : 128 ≤ g t j) :
    gatepostref02_value.l0 (k + 1) t c (j : Int) = gatepostref02_value.l0 k t (64 * c + g t j - 128) ((j + 1 : Nat) : Int) := by
  have hr := g_range t j
  rw [gatepostref02_value.l0, if_pos (by omega), if_pos (by omega), g_in t j hj, show wrap64 ((j : Int) + 1) = ((j + 1 : Nat) : Int) by unfold wrap64; omega]
  congr 1
  unfold wrap32
  omega
theorem value_end (t : ByteArray) (k : Nat) (c : Int) (j : Nat) (hj : t.size ≤ j) : gatepostref02_value.l0 (k + 1) t c (j : Int) = some c := by
  rw [gatepostref02_value.l0, if_neg (by omega)]
theorem value_1 (t : ByteArray) (k : Nat) (h : t.size = 1) : gatepostref02_value.f k t = some (g t 0) := by
  have hr := g_range t 0
  unfold gatepostref02_value.f
  rw [if_pos (by omega), if_pos (by omega), show bt t 0 = g t 0 from g_in t 0 (by omega)]
  congr 1; unfold wrap32; omega
theorem value_start (t : ByteArray) (k : Nat) (m : Nat) (x : Int) (h : t.size = m + 2) (hm : m ≤ 2) (hx : x = rd [192, 224, 240] (m : Int)) :
    gatepostref02_value.f k t = gatepostref02_value.l0 k t (g t 0 - x) ((1 : Nat) : Int) := by
  have hr := g_range t 0
  unfold gatepostref02_value.f
  have hxr : 192 ≤ x ∧ x ≤ 240 := by
    obtain rfl | rfl | rfl : m = 0 ∨ m = 1 ∨ m = 2 := by omega
    all_goals (rw [hx]; decide)
  rw [if_neg (by omega), if_pos (by omega), show bt t 0 = g t 0 from g_in t 0 (by omega)]
  simp only [Option.bind_some]
  have e : wrap64 ((t.size : Int) - 2) = (m : Int) := by unfold wrap64; omega
  rw [e, if_pos (by omega), if_pos (by simp; omega), ← hx]
  congr 1
  unfold wrap32
  omega
theorem g_extract (s : ByteArray) (a b i : Nat) (h : i < b - a) : g (s.extract a b) i = g s (a + i) := by
  unfold g
  rw [bytesOf_extract]
  simp only [List.getD_eq_getElem?_getD, List.getElem?_take, List.getElem?_drop, if_pos h]
theorem size_extract' (s : ByteArray) (a n : Nat) (h : a + n ≤ s.size) : (s.extract a (a + n)).size = n := by
  rw [ByteArray.size_extract]; omega
theorem nx_beg (b0 b1 b2 b3 : Int) (h0 : 0 ≤ b0) : (if beg b0 b1 b2 b3 > 0 ∧ beg b0 b1 b2 b3 = manyOf b0 then True else nx b0 b1 b2 b3 = (65533, (mx (beg b0 b1 b2 b3) 1).toNat)) ∧ (mx (beg b0 b1 b2 b3) 1).toNat = (nx b0 b1 b2 b3).2 ∧ 0 ≤ beg b0 b1 b2 b3 ∧ beg b0 b1 b2 b3 ≤ 4 := by
  have hlh := lohi b0
  unfold beg nx
  by_cases h1 : b0 < 128
  · have hm : manyOf b0 = 1 := by unfold manyOf; rw [if_pos h1]
    rw [hm, if_pos h1]; simp [mx]
  rw [if_neg h1]
  by_cases h2 : 194 ≤ b0 ∧ b0 ≤ 223
  · have hm : manyOf b0 = 2 := by unfold manyOf; rw [if_neg h1, if_pos h2]
    have hl : lo2 b0 = 128 ∧ hi2 b0 = 191 := by unfold lo2 hi2; rw [if_neg (by omega), if_neg (by omega), if_neg (by omega), if_neg (by omega)]; simp
    rw [hm, if_pos h2, hl.1, hl.2]
    by_cases a : 128 ≤ b1 ∧ b1 ≤ 191
    · simp [a, mx]
    · simp [a, mx]
  rw [if_neg h2]
  by_cases h3 : 224 ≤ b0 ∧ b0 ≤ 239
  · have hm : manyOf b0 = 3 := by unfold manyOf; rw [if_neg h1, if_neg h2, if_pos h3]
    rw [hm, if_pos h3]
    by_cases a : lo2 b0 ≤ b1 ∧ b1 ≤ hi2 b0
    · by_cases a2 : 128 ≤ b2 ∧ b2 ≤ 191
      · simp [a, a2, mx]
      · simp [a, a2, mx]
    · simp [a, mx]
  rw [if_neg h3]
  by_cases h4 : 240 ≤ b0 ∧ b0 ≤ 244
  · have hm : manyOf b0 = 4 := by unfold manyOf; rw [if_neg h1, if_neg h2, if_neg h3, if_pos h4]
    rw [hm, if_pos h4]
    by_cases a : lo2 b0 ≤ b1 ∧ b1 ≤ hi2 b0
    · by_cases a2 : 128 ≤ b2 ∧ b2 ≤ 191
      · by_cases a3 : 128 ≤ b3 ∧ b3 ≤ 191
        · simp [a, a2, a3, mx]
        · simp [a, a2, a3, mx]
      · simp [a, a2, mx]
    · simp [a, mx]
  rw [if_neg h4]
  have hm : manyOf b0 = 0 := by unfold manyOf; rw [if_neg h1, if_neg h2, if_neg h3, if_neg h4]
  rw [hm]; simp [mx]
/-- A whole scalar's bytes. -/
theorem value_f (s : ByteArray) (at_ k : Nat) (hk : 10 ≤ k) (ha : at_ < s.size) (n : Nat)
    (hn : beg (g s at_) (g s (at_ + 1)) (g s (at_ + 2)) (g s (at_ + 3)) = (n : Int)) (hp : 0 < n) (hm : (n : Int) = manyOf (g s at_)) :
    at_ + n ≤ s.size ∧ gatepostref02_value.f k (s.extract at_ (at_ + n)) = some (nx (g s at_) (g s (at_ + 1)) (g s (at_ + 2)) (g s (at_ + 3))).1 := by
  obtain ⟨k, rfl⟩ : ∃ m, k = m + 6 := ⟨k - 6, by omega⟩
  have hlh := lohi (g s at_)
  have r0 := g_range s at_
  have r1 := g_range s (at_ + 1)
  have r2 := g_range s (at_ + 2)
  have r3 := g_range s (at_ + 3)
  have i1 : 128 ≤ g s (at_ + 1) → at_ + 1 < s.size := fun h => by
    rcases Nat.lt_or_ge (at_ + 1) s.size with h' | h'
    · exact h'
    · rw [g_out s _ h'] at h; omega
  have i2 : 128 ≤ g s (at_ + 2) → at_ + 2 < s.size := fun h => by
    rcases Nat.lt_or_ge (at_ + 2) s.size with h' | h'
    · exact h'
    · rw [g_out s _ h'] at h; omega
  have i3 : 128 ≤ g s (at_ + 3) → at_ + 3 < s.size := fun h => by
    rcases Nat.lt_or_ge (at_ + 3) s.size with h' | h'
    · exact h'
    · rw [g_out s _ h'] at h; omega
  unfold beg at hn
  have hm4 : n = 1 ∨ n = 2 ∨ n = 3 ∨ n = 4 := by
    unfold manyOf at hm
    repeat' split at hm
    all_goals omega
  rw [← hm] at hn
  rcases hm4 with rfl | rfl | rfl | rfl
  · have hb : g s at_ < 128 := by
      unfold manyOf at hm
      repeat' split at hm
      all_goals omega
    refine ⟨by omega, ?_⟩
    rw [value_1 _ _ (size_extract' s at_ 1 (by omega)), g_extract _ _ _ _ (by omega), Nat.add_zero]
    unfold nx; rw [if_pos hb]
  · have hb : 194 ≤ g s at_ ∧ g s at_ ≤ 223 := by
      unfold manyOf at hm
      repeat' split at hm
      all_goals omega
    rw [if_neg (by omega)] at hn
    by_cases a : lo2 (g s at_) ≤ g s (at_ + 1) ∧ g s (at_ + 1) ≤ hi2 (g s at_)
    · have := i1 (by omega)
      have hsz := size_extract' s at_ 2 (by omega)
      have g0 : g (s.extract at_ (at_ + 2)) 0 = g s at_ := g_extract _ _ _ _ (by omega)
      have g1 : g (s.extract at_ (at_ + 2)) 1 = g s (at_ + 1) := g_extract _ _ _ _ (by omega)
      refine ⟨by omega, ?_⟩
      rw [value_start _ _ 0 192 hsz (by omega) rfl, g0, value_round _ _ _ 1 (by omega) (by omega) (by omega) (by rw [g1]; omega), value_end _ _ _ _ (by omega), g1]
      unfold nx
      rw [if_neg (by omega), if_pos hb, if_pos (by omega)]
      congr 1; simp only; omega
    · rw [if_pos a] at hn; omega
  · have hb : 224 ≤ g s at_ ∧ g s at_ ≤ 239 := by
      unfold manyOf at hm
      repeat' split at hm
      all_goals omega
    rw [if_neg (by omega)] at hn
    by_cases a : lo2 (g s at_) ≤ g s (at_ + 1) ∧ g s (at_ + 1) ≤ hi2 (g s at_)
    · rw [if_neg (not_not_intro a), if_neg (by omega)] at hn
      by_cases a2 : 128 ≤ g s (at_ + 2) ∧ g s (at_ + 2) ≤ 191
      · have := i2 (by omega)
        have hsz := size_extract' s at_ 3 (by omega)
        have g0 : g (s.extract at_ (at_ + 3)) 0 = g s at_ := g_extract _ _ _ _ (by omega)
        have g1 : g (s.extract at_ (at_ + 3)) 1 = g s (at_ + 1) := g_extract _ _ _ _ (by omega)
        have g2 : g (s.extract at_ (at_ + 3)) 2 = g s (at_ + 2) := g_extract _ _ _ _ (by omega)
        refine ⟨by omega, ?_⟩
        rw [value_start _ _ 1 224 hsz (by omega) rfl, g0, value_round _ _ _ 1 (by omega) (by omega) (by omega) (by rw [g1]; omega), value_round _ _ _ 2 (by omega) (by omega) (by rw [g1]; omega) (by rw [g2]; omega), value_end _ _ _ _ (by omega), g1, g2]
        unfold nx
        rw [if_neg (by omega), if_neg (by omega), if_pos hb, if_pos a, if_pos a2]
        congr 1; simp only; omega
      · rw [if_pos a2] at hn; omega
    · rw [if_pos a] at hn; omega
  · have hb : 240 ≤ g s at_ ∧ g s at_ ≤ 244 := by
      unfold manyOf at hm
      repeat' split at hm
      all_goals omega
    rw [if_neg (by omega)] at hn
    by_cases a : lo2 (g s at_) ≤ g s (at_ + 1) ∧ g s (at_ + 1) ≤ hi2 (g s at_)
    · rw [if_neg (not_not_intro a), if_neg (by omega)] at hn
      by_cases a2 : 128 ≤ g s (at_ + 2) ∧ g s (at_ + 2) ≤ 191
      · rw [if_neg (not_not_intro a2), if_neg (by omega)] at hn
        by_cases a3 : 128 ≤ g s (at_ + 3) ∧ g s (at_ + 3) ≤ 191
        · have := i3 (by omega)
          have hsz := size_extract' s at_ 4 (by omega)
          have g0 : g (s.extract at_ (at_ + 4)) 0 = g s at_ := g_extract _ _ _ _ (by omega)
          have g1 : g (s.extract at_ (at_ + 4)) 1 = g s (at_ + 1) := g_extract _ _ _ _ (by omega)
          have g2 : g (s.extract at_ (at_ + 4)) 2 = g s (at_ + 2) := g_extract _ _ _ _ (by omega)
          have g3 : g (s.extract at_ (at_ + 4)) 3 = g s (at_ + 3) := g_extract _ _ _ _ (by omega)
          refine ⟨by omega, ?_⟩
          rw [value_start _ _ 2 240 hsz (by omega) rfl, g0, value_round _ _ _ 1 (by omega) (by omega) (by omega) (by rw [g1]; omega), value_round _ _ _ 2 (by omega) (by omega) (by rw [g1]; omega) (by rw [g2]; omega),
            value_round _ _ _ 3 (by omega) (by omega) (by rw [g1, g2]; omega) (by rw [g3]; omega), value_end _ _ _ _ (by omega), g1, g2, g3]
          unfold nx
          rw [if_neg (by omega), if_neg (by omega), if_neg (by omega), if_pos hb, if_pos a, if_pos a2, if_pos a3]
          congr 1; simp only; omega
        · rw [if_pos a3] at hn; omega
      · rw [if_pos a2] at hn; omega
    · rw [if_pos a] at hn; omega
theorem nxL_drop (s : ByteArray) (at_ : Nat) : nxL ((bytesOf s).drop at_) = nx (g s at_) (g s (at_ + 1)) (g s (at_ + 2)) (g s (at_ + 3)) := by
  unfold nxL g
  simp only [List.getD_eq_getElem?_getD, List.getElem?_drop, Nat.add_zero]
theorem wrap_sum (a b n : Nat) (h : a + b ≤ n) (hn : n ≤ 10000000000) : wrap64 ((a : Int) + (b : Int)) = ((a + b : Nat) : Int) := by
  unfold wrap64; omega
theorem refDecode_step (s : ByteArray) (hs : s.size ≤ 10000000000) (k at_ L : Nat) (v : Int) (acc : List Int) (hk : 10 ≤ k) (h : at_ < s.size) (hl : acc.length < 35184372088832)
    (hnx : nx (g s at_) (g s (at_ + 1)) (g s (at_ + 2)) (g s (at_ + 3)) = (v, L)) (hL : at_ + L ≤ s.size) :
    gatepostref02_Decode.l0 (k + 1) s acc (at_ : Int) = gatepostref02_Decode.l0 k s (acc ++ [v]) ((at_ + L : Nat) : Int) := by
  rw [gatepostref02_Decode.l0, if_pos (by omega), begin_f s at_ k hk h hs]
  simp only [Option.bind_some]
  have g0 : 0 ≤ g s at_ := by rw [← g_in s at_ h]; exact (bt_range s at_).1
  obtain ⟨hb1, hb2, hb3, hb4⟩ := nx_beg (g s at_) (g s (at_ + 1)) (g s (at_ + 2)) (g s (at_ + 3)) g0
  have V := value_f s at_ k hk h
  have M : gatepostref02_many.f k (bt s (at_ : Int)) = some (manyOf (g s at_)) := by rw [g_in s at_ h]; exact many_f _ k (by omega)
  rw [hnx] at hb1 hb2 V
  generalize beg (g s at_) (g s (at_ + 1)) (g s (at_ + 2)) (g s (at_ + 3)) = bg at *
  generalize manyOf (g s at_) = mo at *
  obtain ⟨m, rfl⟩ := Int.eq_ofNat_of_zero_le hb3
  have hmx : mx (m : Int) 1 = (L : Int) := by
    have hb2' : (mx (m : Int) 1).toNat = L := hb2
    unfold mx at hb2' ⊢; split at hb2' <;> omega
  have hw : wrap64 ((at_ : Int) + (L : Int)) = ((at_ + L : Nat) : Int) := wrap_sum _ _ _ hL hs
  rw [hmx, hw, if_pos hl]
  have bad : ¬ ((m : Int) > 0 ∧ (m : Int) = mo) → gatepostref02_Decode.l0 k s (acc ++ [65533]) ((at_ + L : Nat) : Int) = gatepostref02_Decode.l0 k s (acc ++ [v]) ((at_ + L : Nat) : Int) := by
    intro hbad
    rw [if_neg hbad] at hb1
    rw [(Prod.mk.inj hb1).1]
  by_cases hp : (m : Int) > 0
  · rw [if_pos hp, if_pos (by omega), M]
    simp only [Option.bind_some]
    by_cases he : (m : Int) = mo
    · obtain ⟨hv1, hv2⟩ := V m rfl (Int.natCast_pos.1 hp) he
      have hw2 : wrap64 ((at_ : Int) + (m : Int)) = ((at_ + m : Nat) : Int) := wrap_sum _ _ _ hv1 hs
      have i1 : (at_ : Int) ≤ ((at_ + m : Nat) : Int) := Int.ofNat_le.2 (Nat.le_add_right _ _)
      have i2 : ((at_ + m : Nat) : Int) ≤ (s.size : Int) := Int.ofNat_le.2 hv1
      rw [if_pos he, hw2, if_pos i1, if_pos i2, Int.toNat_natCast, Int.toNat_natCast, hv2]
      simp only [Option.bind_some]
      rw [if_pos hl]
    · rw [if_neg he]; exact bad (fun hh => he hh.2)
  · rw [if_neg hp]; exact bad (fun hh => hp hh.1)
theorem refDecode_l0 (s : ByteArray) (hs : s.size ≤ 10000000000) (n : Nat) : ∀ (k at_ : Nat) (acc : List Int), s.size - at_ = n → n + 12 < k → at_ ≤ s.size → acc.length + n < 35184372088832 →
    gatepostref02_Decode.l0 k s acc (at_ : Int) = some (acc ++ dec ((bytesOf s).drop at_)) := by
  induction n using Nat.strongRecOn with
  | _ n ih =>
    intro k at_ acc hn hk ha hl
    obtain ⟨k, rfl⟩ : ∃ m, k = m + 1 := ⟨k - 1, by omega⟩
    rcases Nat.lt_or_ge at_ s.size with h | h
    · have hne : (bytesOf s).drop at_ ≠ [] := by
        intro e
        have hl : ((bytesOf s).drop at_).length = 0 := by rw [e]; rfl
        rw [List.length_drop, bytesOf_length] at hl
        omega
      have hlen := nxL_len _ hne
      have hpos := nxL_pos ((bytesOf s).drop at_)
      have hdec := dec_ne _ hne
      have hst := nxL_drop s at_
      rw [List.length_drop, bytesOf_length] at hlen
      rw [List.drop_drop] at hdec
      generalize hq : nxL ((bytesOf s).drop at_) = q at *
      obtain ⟨v, L⟩ := q
      rw [refDecode_step s hs k at_ L v acc (by omega) h (by omega) hst.symm (by simp only at hlen; omega), hdec]
      simp only at hlen hpos ⊢
      rw [ih (s.size - (at_ + L)) (by omega) k (at_ + L) _ rfl (by omega) (by omega) (by simp; omega)]
      simp
    · rw [gatepostref02_Decode.l0, if_neg (by omega), List.drop_eq_nil_of_le (by rw [bytesOf_length]; exact h), dec_nil, List.append_nil]
theorem refDecode (s : ByteArray) (hs : s.size ≤ 10000000000) (k : Nat) (hk : s.size + 12 < k) : gatepostref02_Decode.f k s = some (dec (bytesOf s)) := by
  unfold gatepostref02_Decode.f
  have := refDecode_l0 s hs s.size k 0 [] (by omega) hk (by omega) (by simp; omega)
  simpa using this
end Go.Proofs.Ytbdiklhffngjmaa.Uni
