/- What utf's functions, and the reference's, come to, as plain functions on lists of numbers (no program, no memory). -/
import Derived.Test.YtlbceljgmkojeaaUni
import Derived.Test.YtlbceljgmkojeaaPUtfx
namespace Go.Proofs.Ytlbceljgmkojeaa.Uni
open Go.RowKit Go.Proofs.Ytlbceljgmkojeaa.PUtf Go.Proofs.YtlbceljgmkojeaaW.PrintWords Go.Proofs.YtlbceljgmkojeaaW.PrintLast Go.Proofs.YtlbceljgmkojeaaW.PrintMore
set_option linter.unusedVariables false
set_option linter.unusedSimpArgs false

/-! ### 1. utf.next -/
def g (s : ByteArray) (i : Nat) : Int := (bytesOf s).getD i (-1)
theorem g_in (s : ByteArray) (i : Nat) (h : i < s.size) : bt s (i : Int) = g s i := by
  rw [← rd_bytesOf]
  unfold rd g
  have : i < (bytesOf s).length := by rw [bytesOf_length]; exact h
  simp [List.getD_eq_getElem?_getD, List.getElem?_eq_getElem this]
theorem g_out (s : ByteArray) (i : Nat) (h : s.size ≤ i) : g s i = -1 := by
  unfold g
  have : (bytesOf s).length ≤ i := by rw [bytesOf_length]; exact h
  simp [List.getD_eq_getElem?_getD, List.getElem?_eq_none this]
theorem g_range (s : ByteArray) (i : Nat) : -1 ≤ g s i ∧ g s i ≤ 255 := by
  rcases Nat.lt_or_ge i s.size with h | h
  · rw [← g_in s i h]; have := bt_range s (i : Int); omega
  · rw [g_out s i h]; omega
theorem goOn_step (s : ByteArray) (m : Int) (f : Nat) (i : Nat) (c lo hi : Int) (h0 : 0 ≤ lo) :
    goOn s m (f + 1) (i : Int) c lo hi = if lo ≤ g s i ∧ g s i ≤ hi then goOn s m f ((i + 1 : Nat) : Int) (bits .or .i32 (wrap32 (c * 64)) (g s i % 64)) 128 191 else (65533, (i : Int)) := by
  rw [goOn]
  rcases Nat.lt_or_ge i s.size with h | h
  · rw [g_in s i h]
    have : (i : Int) < (s.size : Int) := by omega
    simp only [this, true_and]
    rfl
  · rw [g_out s i h, if_neg (by omega), if_neg (by omega)]
theorem goOn_end (s : ByteArray) (m i c lo hi : Int) : goOn s m 0 i c lo hi = (c, mx m 0 + 1) := by rw [goOn]

theorem next_nx (s : ByteArray) (h : 0 < s.size) : utf_next.f s = some ((nxL (bytesOf s)).1, ((nxL (bytesOf s)).2 : Int)) := by
  unfold utf_next.f
  rw [if_pos (by omega)]
  congr 1
  have e0 : bt s 0 = g s 0 := g_in s 0 h
  have r0 := bt_range s 0
  have r1 := g_range s 1
  have r2 := g_range s 2
  have r3 := g_range s 3
  have en : nxL (bytesOf s) = nx (g s 0) (g s 1) (g s 2) (g s 3) := rfl
  rw [en, e0]
  rw [e0] at r0
  generalize hb : g s 0 = b at *
  have S1 := goOn_step s
  unfold nx
  by_cases h1 : b < 128
  · rw [if_pos h1, if_pos h1]; rfl
  rw [if_neg h1, if_neg h1]
  by_cases h2 : 194 ≤ b ∧ b ≤ 223
  · rw [if_pos h2]
    have ef : first4 b = (1, b % 32, 128, 191) := by unfold first4; rw [if_neg (by omega), if_pos h2.2]
    rw [ef]
    show goOn s 1 1 ((1 : Nat) : Int) (b % 32) 128 191 = _
    rw [goOn_step _ _ _ _ _ _ _ (by omega)]
    by_cases a : 128 ≤ g s 1 ∧ g s 1 ≤ 191
    · rw [if_pos a, if_pos a, goOn_end, or_low _ _ (by omega) (by omega) (by omega) (by omega)]
      have e2 : (b % 32 * 64 + g s 1 % 64) = (b - 192) * 64 + (g s 1 - 128) := by omega
      rw [e2]; rfl
    · rw [if_neg a, if_neg a]
  rw [if_neg h2]
  by_cases h3 : 224 ≤ b ∧ b ≤ 239
  · rw [if_pos h3]
    have ef : ∃ c0, first4 b = (2, c0, lo2 b, hi2 b) ∧ c0 = b - 224 := by
      unfold first4 lo2 hi2
      by_cases a : b = 224
      · subst a; exact ⟨0, rfl, rfl⟩
      by_cases a2 : b = 237
      · subst a2; exact ⟨13, rfl, rfl⟩
      refine ⟨b % 16, ?_, by omega⟩
      rw [if_neg (by omega), if_neg (by omega), if_neg a, if_neg a2, if_pos h3.2, if_neg a, if_neg (by omega), if_neg a2, if_neg (by omega)]
    obtain ⟨c0, ef, hc⟩ := ef
    rw [ef]
    have hlo : 128 ≤ lo2 b ∧ hi2 b ≤ 191 := by unfold lo2 hi2; repeat' split
                                               all_goals omega
    show goOn s 2 2 ((1 : Nat) : Int) c0 (lo2 b) (hi2 b) = _
    rw [goOn_step _ _ _ _ _ _ _ (by omega)]
    by_cases a : lo2 b ≤ g s 1 ∧ g s 1 ≤ hi2 b
    · rw [if_pos a, if_pos a, or_low _ _ (by omega) (by omega) (by omega) (by omega), goOn_step _ _ _ _ _ _ _ (by omega)]
      by_cases a2 : 128 ≤ g s 2 ∧ g s 2 ≤ 191
      · rw [if_pos a2, if_pos a2, goOn_end, or_low _ _ (by omega) (by omega) (by omega) (by omega)]
        have e2 : ((c0 * 64 + g s 1 % 64) * 64 + g s 2 % 64) = (b - 224) * 4096 + (g s 1 - 128) * 64 + (g s 2 - 128) := by omega
        rw [e2]; rfl
      · rw [if_neg a2, if_neg a2]
    · rw [if_neg a, if_neg a]
  rw [if_neg h3]
  by_cases h4 : 240 ≤ b ∧ b ≤ 244
  · rw [if_pos h4]
    have ef : ∃ c0, first4 b = (3, c0, lo2 b, hi2 b) ∧ c0 = b - 240 := by
      unfold first4 lo2 hi2
      by_cases a : b = 240
      · subst a; exact ⟨0, rfl, rfl⟩
      by_cases a2 : b = 244
      · subst a2; exact ⟨4, rfl, rfl⟩
      refine ⟨b % 8, ?_, by omega⟩
      rw [if_neg (by omega), if_neg (by omega), if_neg (by omega), if_neg (by omega), if_neg (by omega), if_neg a, if_pos (by omega), if_neg (by omega), if_neg a, if_neg (by omega), if_neg a2]
    obtain ⟨c0, ef, hc⟩ := ef
    rw [ef]
    have hlo : 128 ≤ lo2 b ∧ hi2 b ≤ 191 := by unfold lo2 hi2; repeat' split
                                               all_goals omega
    show goOn s 3 3 ((1 : Nat) : Int) c0 (lo2 b) (hi2 b) = _
    rw [goOn_step _ _ _ _ _ _ _ (by omega)]
    by_cases a : lo2 b ≤ g s 1 ∧ g s 1 ≤ hi2 b
    · rw [if_pos a, if_pos a, or_low _ _ (by omega) (by omega) (by omega) (by omega), goOn_step _ _ _ _ _ _ _ (by omega)]
      by_cases a2 : 128 ≤ g s 2 ∧ g s 2 ≤ 191
      · rw [if_pos a2, if_pos a2, or_low _ _ (by omega) (by omega) (by omega) (by omega), goOn_step _ _ _ _ _ _ _ (by omega)]
        by_cases a3 : 128 ≤ g s 3 ∧ g s 3 ≤ 191
        · rw [if_pos a3, if_pos a3, goOn_end, or_low _ _ (by omega) (by omega) (by omega) (by omega)]
          have e2 : (((c0 * 64 + g s 1 % 64) * 64 + g s 2 % 64) * 64 + g s 3 % 64) = (b - 240) * 262144 + (g s 1 - 128) * 4096 + (g s 2 - 128) * 64 + (g s 3 - 128) := by omega
          rw [e2]; rfl
        · rw [if_neg a3, if_neg a3]
      · rw [if_neg a2, if_neg a2]
    · rw [if_neg a, if_neg a]
  rw [if_neg h4]
  have ef : first4 b = (-1, 65533, 128, 191) := by
    unfold first4
    by_cases a : b ≤ 193
    · rw [if_pos a]
    · rw [if_neg a, if_neg (by omega), if_neg (by omega), if_neg (by omega), if_neg (by omega), if_neg (by omega), if_neg (by omega), if_neg (by omega)]
  rw [ef]
  show goOn s (-1) 0 1 65533 128 191 = _
  rw [goOn_end]; rfl

/-! ### 2. utf8.AppendRune, utf.Encode -/
theorem enc1_1 (c : Int) (h0 : 0 ≤ c) (h1 : c < 128) : enc1 c = [c] := by
  unfold enc1; rw [if_pos (show Scalar c by unfold Scalar; omega), if_pos h1]
theorem enc1_2 (c : Int) (h0 : 128 ≤ c) (h1 : c < 2048) : enc1 c = [192 + c / 64, 128 + c % 64] := by
  unfold enc1; rw [if_pos (show Scalar c by unfold Scalar; omega), if_neg (by omega), if_pos h1]
theorem enc1_3 (c : Int) (h0 : 2048 ≤ c) (h1 : c < 65536) (h2 : c < 55296 ∨ 57343 < c) : enc1 c = [224 + c / 4096, 128 + c / 64 % 64, 128 + c % 64] := by
  unfold enc1; rw [if_pos (show Scalar c by unfold Scalar; omega), if_neg (by omega), if_neg (by omega), if_pos h1]
theorem enc1_4 (c : Int) (h0 : 65536 ≤ c) (h1 : c ≤ 1114111) : enc1 c = [240 + c / 262144, 128 + c / 4096 % 64, 128 + c / 64 % 64, 128 + c % 64] := by
  unfold enc1; rw [if_pos (show Scalar c by unfold Scalar; omega), if_neg (by omega), if_neg (by omega), if_neg (by omega)]
theorem enc1_bad (c : Int) (h : c < 0 ∨ 1114111 < c ∨ (55296 ≤ c ∧ c ≤ 57343)) : enc1 c = [239, 191, 189] := by
  unfold enc1; rw [if_neg (show ¬ Scalar c by unfold Scalar; omega)]
theorem appendRune (c : Int) (hc : -2147483648 ≤ c ∧ c ≤ 2147483647) (acc : List Int) (hl : acc.length + 4 < 140737488355328) (k : Nat) (hk : 1 ≤ k) :
    utf8_AppendRune.f k acc c = some (acc ++ enc1 c) := by
  obtain ⟨k, rfl⟩ : ∃ m, k = m + 1 := ⟨k - 1, by omega⟩
  unfold utf8_AppendRune.f
  by_cases h1 : c % 4294967296 ≤ 127
  · rw [if_pos h1, if_pos (by omega), enc1_1 c (by omega) (by omega), show c % 256 = c by omega]
  rw [if_neg h1]
  unfold utf8_appendRuneNonASCII.f
  by_cases h2 : c % 4294967296 ≤ 2047
  · rw [if_pos h2, enc1_2 c (by omega) (by omega)]
    simp only [Option.bind_some, List.length_cons, List.length_nil]
    rw [if_pos (by omega), show c / 64 % 256 = c / 64 by omega, or_192 _ (by omega) (by omega)]
    rfl
  rw [if_neg h2]
  by_cases h3 : c % 4294967296 < 55296
  · rw [if_pos h3, decide_eq_true h3, enc1_3 c (by omega) (by omega) (by omega)]
    simp only [utf8_appendRuneNonASCII.j0, if_true, Option.bind_some, List.length_cons, List.length_nil]
    rw [if_pos (by omega), show c / 4096 % 256 = c / 4096 by omega, or_224 _ (by omega) (by omega)]
    rfl
  rw [if_neg h3]
  by_cases h4 : 57343 < c % 4294967296
  · rw [if_pos h4]
    by_cases h5 : c % 4294967296 ≤ 65535
    · rw [decide_eq_true h5, enc1_3 c (by omega) (by omega) (by omega)]
      simp only [utf8_appendRuneNonASCII.j0, if_true, Option.bind_some, List.length_cons, List.length_nil]
      rw [if_pos (by omega), show c / 4096 % 256 = c / 4096 by omega, or_224 _ (by omega) (by omega)]
      rfl
    · rw [decide_eq_false h5]
      simp only [utf8_appendRuneNonASCII.j0, Bool.false_eq_true, if_false, Option.bind_some, List.length_cons, List.length_nil]
      rw [if_pos (by omega)]
      by_cases h6 : c % 4294967296 ≤ 1114111
      · rw [if_pos h6, if_pos (by omega), enc1_4 c (by omega) (by omega), show c / 262144 % 256 = c / 262144 by omega, or_240 _ (by omega) (by omega)]
        rfl
      · rw [if_neg h6, if_pos (by omega), enc1_bad c (by omega)]
        rfl
  · rw [if_neg h4]
    simp only [utf8_appendRuneNonASCII.j0, Bool.false_eq_true, if_false, Option.bind_some, List.length_cons, List.length_nil]
    rw [if_neg (by omega), if_pos (by omega), enc1_bad c (by omega)]
    rfl

theorem wrap_next (i : Int) (n : Nat) (h0 : 0 ≤ i) (h : i < (n : Int)) (hn : n ≤ 140737488355328) : wrap64 (i + 1) = i + 1 := by
  unfold wrap64; omega
theorem drop_rd (l : List Int) (i : Int) (h0 : 0 ≤ i) (h : i < (l.length : Int)) : l.drop i.toNat = rd l i :: l.drop (i + 1).toNat := by
  have hi : i.toNat < l.length := by omega
  rw [List.drop_eq_getElem_cons hi, show (i + 1).toNat = i.toNat + 1 by omega]
  unfold rd
  simp [List.getD_eq_getElem?_getD, List.getElem?_eq_getElem hi]
theorem rd_mem (l : List Int) (i : Int) (h0 : 0 ≤ i) (h : i < (l.length : Int)) : rd l i ∈ l := by
  have hi : i.toNat < l.length := by omega
  unfold rd
  simp [List.getD_eq_getElem?_getD, List.getElem?_eq_getElem hi]
def I32 (l : List Int) : Prop := ∀ c ∈ l, -2147483648 ≤ c ∧ c ≤ 2147483647

theorem encode_l0 (l : List Int) (hr : I32 l) (d : Nat) : ∀ (k : Nat) (acc : List Int) (i : Int), 0 ≤ i → i ≤ l.length → (l.length : Int) - i = d → d + 1 < k → acc.length + 4 * d + 4 < 140737488355328 → l.length ≤ 140737488355328 →
    utf_Encode.l0 k acc l (l.length : Int) i = some (strOfNums (acc ++ enc (l.drop i.toNat))) := by
  induction d with
  | zero =>
    intro k acc i h0 h1 hd hk hl hn
    obtain ⟨k, rfl⟩ : ∃ m, k = m + 1 := ⟨k - 1, by omega⟩
    simp only [utf_Encode.l0]
    rw [if_neg (by omega), List.drop_eq_nil_of_le (by omega)]
    simp [enc]
  | succ d ih =>
    intro k acc i h0 h1 hd hk hl hn
    obtain ⟨k, rfl⟩ : ∃ m, k = m + 1 := ⟨k - 1, by omega⟩
    have hlt : i < (l.length : Int) := by omega
    simp only [utf_Encode.l0]
    rw [if_pos hlt, if_pos h0, if_pos hlt, appendRune _ (hr _ (rd_mem l i h0 hlt)) _ (by omega) k (by omega)]
    simp only [Option.bind_some]
    rw [wrap_next i _ h0 hlt hn]
    have hlen := (enc1_len (rd l i)).2
    rw [ih k _ (i + 1) (by omega) (by omega) (by omega) (by omega) (by rw [List.length_append]; omega) hn, drop_rd l i h0 hlt, enc_cons, List.append_assoc]
theorem encode (l : List Int) (hr : I32 l) (hn : l.length ≤ 10000000000) (k : Nat) (hk : l.length + 2 ≤ k) : utf_Encode.f k l = some (strOfNums (enc l)) := by
  unfold utf_Encode.f
  have := encode_l0 l hr l.length k [] 0 (by omega) (by omega) (by omega) (by omega) (by simp; omega) (by omega)
  simpa using this

/-! ### 3. the reference's Encode -/
theorem scalar_f (c : Int) : gatepostref02_Scalar.f c = some (decide (Scalar c)) := by
  unfold gatepostref02_Scalar.f
  by_cases h1 : c ≥ 0
  · rw [if_pos h1]
    by_cases h2 : c ≤ 1114111
    · rw [if_pos h2]
      by_cases h3 : c < 55296
      · rw [if_pos h3, decide_eq_true (show Scalar c by unfold Scalar; omega)]
      · rw [if_neg h3]
        by_cases h4 : c > 57343
        · rw [decide_eq_true h4, decide_eq_true (show Scalar c by unfold Scalar; omega)]
        · rw [decide_eq_false h4, decide_eq_false (show ¬ Scalar c by unfold Scalar; omega)]
    · rw [if_neg h2, decide_eq_false (show ¬ Scalar c by unfold Scalar; omega)]
  · rw [if_neg h1, decide_eq_false (show ¬ Scalar c by unfold Scalar; omega)]
theorem bytes_f (c : Int) (h : Scalar c) : gatepostref02_bytes.f c = some (enc1 c) := by
  unfold gatepostref02_bytes.f enc1
  rw [if_pos h]
  unfold Scalar at h
  have t1 : ∀ n : Int, 0 < n → Int.tdiv c n = c / n := fun n hn => Int.tdiv_eq_ediv_of_nonneg h.1
  have t2 : ∀ n : Int, Int.tmod c n = c % n := fun n => Int.tmod_eq_emod_of_nonneg h.1
  by_cases h1 : c < 128
  · rw [if_pos h1, if_pos h1, show c % 256 = c by omega]
  rw [if_neg h1, if_neg h1]
  by_cases h2 : c < 2048
  · rw [if_pos h2, if_pos h2, t1 64 (by omega), t2 64]
    unfold wrap32
    congr 2
    · omega
    · congr 1; omega
  rw [if_neg h2, if_neg h2]
  have t3 : Int.tmod (wrap32 (c / 64)) 64 = c / 64 % 64 := by
    rw [show wrap32 (c / 64) = c / 64 by unfold wrap32; omega]; exact Int.tmod_eq_emod_of_nonneg (by omega)
  have t4 : Int.tmod (wrap32 (c / 4096)) 64 = c / 4096 % 64 := by
    rw [show wrap32 (c / 4096) = c / 4096 by unfold wrap32; omega]; exact Int.tmod_eq_emod_of_nonneg (by omega)
  by_cases h3 : c < 65536
  · rw [if_pos h3, if_pos h3, t1 64 (by omega), t1 4096 (by omega), t2 64, t3]
    unfold wrap32
    congr 2
    · omega
    · congr 1
      · omega
      · congr 1; omega
  rw [if_neg h3, if_neg h3, t1 64 (by omega), t1 4096 (by omega), t1 262144 (by omega), t2 64, t3, t4]
  unfold wrap32
  congr 2
  · omega
  · congr 1
    · omega
    · congr 1
      · omega
      · congr 1; omega
theorem refEncode_l0 (l : List Int) (d : Nat) : ∀ (k : Nat) (acc : List Int) (i : Int), 0 ≤ i → i ≤ l.length → (l.length : Int) - i = d → d < k → acc.length + 4 * d + 4 < 140737488355328 → l.length ≤ 140737488355328 →
    gatepostref02_Encode.l0 k l acc i = some (strOfNums (acc ++ enc (l.drop i.toNat))) := by
  induction d with
  | zero =>
    intro k acc i h0 h1 hd hk hl hn
    obtain ⟨k, rfl⟩ : ∃ m, k = m + 1 := ⟨k - 1, by omega⟩
    simp only [gatepostref02_Encode.l0]
    rw [if_neg (by omega), List.drop_eq_nil_of_le (by omega)]
    simp [enc]
  | succ d ih =>
    intro k acc i h0 h1 hd hk hl hn
    obtain ⟨k, rfl⟩ : ∃ m, k = m + 1 := ⟨k - 1, by omega⟩
    have hlt : i < (l.length : Int) := by omega
    simp only [gatepostref02_Encode.l0]
    have hlen := (enc1_len (rd l i)).2
    rw [if_pos hlt, if_pos h0, scalar_f]
    simp only [Option.bind_some, List.length_cons, List.length_nil]
    by_cases hs : Scalar (rd l i)
    · rw [decide_eq_true hs, bytes_f _ hs]
      simp only [if_true, Option.bind_some]
      rw [if_pos (by omega), wrap_next i _ h0 hlt hn, ih k _ (i + 1) (by omega) (by omega) (by omega) (by omega) (by rw [List.length_append]; omega) hn, drop_rd l i h0 hlt, enc_cons, List.append_assoc]
    · rw [decide_eq_false hs]
      simp only [Bool.false_eq_true, if_false]
      have he : enc1 (rd l i) = [239, 191, 189] := by unfold enc1; rw [if_neg hs]
      rw [if_pos (by omega), wrap_next i _ h0 hlt hn, ih k _ (i + 1) (by omega) (by omega) (by omega) (by omega) (by rw [List.length_append]; simp; omega) hn, drop_rd l i h0 hlt, enc_cons, he, List.append_assoc]
theorem refEncode (l : List Int) (hn : l.length ≤ 10000000000) (k : Nat) (hk : l.length < k) : gatepostref02_Encode.f k l = some (strOfNums (enc l)) := by
  unfold gatepostref02_Encode.f
  have := refEncode_l0 l l.length k [] 0 (by omega) (by omega) (by omega) (by omega) (by simp; omega) (by omega)
  simpa using this
end Go.Proofs.Ytlbceljgmkojeaa.Uni
