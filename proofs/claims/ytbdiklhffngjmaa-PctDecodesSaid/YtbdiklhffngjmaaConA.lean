/- Bytes of strings as numbers; what utf.Encode comes to, as a plain function on lists of numbers. -/
import Derived.Test.YtbdiklhffngjmaaUni
import Derived.Test.YtbdiklhffngjmaaPPrex
import Derived.Lib.Strings
namespace Go.Proofs.Ytbdiklhffngjmaa.Uni
open Go.RowKit Go.Proofs.Ytbdiklhffngjmaa.PPre Go.Proofs.YtbdiklhffngjmaaW.PrintWords Go.Proofs.YtbdiklhffngjmaaW.PrintLast Go.Proofs.YtbdiklhffngjmaaW.PrintMore
set_option linter.unusedVariables false
set_option linter.unusedSimpArgs false

def g (s : ByteArray) (i : Nat) : Int := (bytesOf s).getD i (-1)
theorem g_in (s : ByteArray) (i : Nat) (h : i < s.size) : bt s (i : Int) = g s i := by
  rw [← rd_bytesOf]
  unfold rd g
  have : i < (bytesOf s).length := by rw [bytesOf_length]; exact h
  simp [List.getD_eq_getElem?_getD, List.getElem?_eq_getElem this]
theorem g_out (s : ByteArray) (i : Nat) (h : s.size ≤ i) : g s i = -1 := by
  unfold g
  have : (bytesOf s).length ≤ i := by rw [bytesOf_length]; exact h
  simp [List.getD_eq_getElem?_getD, List.getElem?_eq_none this]
theorem g_range (s : ByteArray) (i : Nat) : -1 ≤ g s i ∧ g s i ≤ 255 := by
  rcases Nat.lt_or_ge i s.size with h | h
  · rw [← g_in s i h]; have := bt_range s (i : Int); omega
  · rw [g_out s i h]; omega
/-! ### 1. Strings and lists of numbers -/
theorem bytesOf_range (s : ByteArray) : ∀ x ∈ bytesOf s, 0 ≤ x ∧ x ≤ 255 := by
  intro x hx
  simp only [bytesOf, List.mem_map] at hx
  obtain ⟨b, _, rfl⟩ := hx
  have := b.toNat_lt
  omega
theorem bytesOf_eq {a b : ByteArray} (h : bytesOf a = bytesOf b) : a.toList = b.toList := by
  rw [ByteArray.toList_eq, ByteArray.toList_eq]
  unfold bytesOf at h
  exact (List.map_inj_right (fun x y hxy => UInt8.toNat_inj.1 (by have e : (x.toNat : Int) = (y.toNat : Int) := hxy; omega))).1 h
theorem toList_eq_iff (a b : ByteArray) : a.toList = b.toList ↔ bytesOf a = bytesOf b :=
  ⟨fun h => by rw [ByteArray.toList_eq, ByteArray.toList_eq] at h; unfold bytesOf; rw [h], bytesOf_eq⟩
theorem toList_beq (a b : ByteArray) : (a.toList == b.toList) = decide (bytesOf a = bytesOf b) := by
  rw [Bool.eq_iff_iff, beq_iff_eq, decide_eq_true_iff, toList_eq_iff]
theorem bytesOf_strOfNums (xs : List Int) (h : ∀ x ∈ xs, 0 ≤ x ∧ x ≤ 255) : bytesOf (strOfNums xs) = xs := by
  unfold bytesOf strOfNums
  simp only [List.map_map]
  conv => rhs; rw [← List.map_id xs]
  refine List.map_congr_left fun x hx => ?_
  have := h x hx
  simp only [Function.comp_apply, UInt8.toNat_ofNat', id_eq]
  omega
theorem bytesOf_append (a b : ByteArray) : bytesOf (a ++ b) = bytesOf a ++ bytesOf b := by
  unfold bytesOf
  simp
theorem bytesOf_extract (s : ByteArray) (a b : Nat) : bytesOf (s.extract a b) = ((bytesOf s).drop a).take (b - a) := by
  unfold bytesOf
  rw [Lib.extract_data, List.map_take, List.map_drop]
theorem bytesOf_rest (s : ByteArray) (a : Nat) : bytesOf (s.extract a s.size) = (bytesOf s).drop a := by
  rw [bytesOf_extract, List.take_of_length_le]
  rw [List.length_drop, bytesOf_length]
  exact Nat.le_refl _
theorem bytesOf_ne (s : ByteArray) (h : 0 < s.size) : bytesOf s ≠ [] := by
  intro e
  have hl : (bytesOf s).length = 0 := by rw [e]; rfl
  rw [bytesOf_length] at hl
  omega

/-! ### 2. utf8.AppendRune, utf.Encode -/
theorem enc1_1 (c : Int) (h0 : 0 ≤ c) (h1 : c < 128) : enc1 c = [c] := by
  unfold enc1; rw [if_pos (show Scalar c by unfold Scalar; omega), if_pos h1]
theorem enc1_2 (c : Int) (h0 : 128 ≤ c) (h1 : c < 2048) : enc1 c = [192 + c / 64, 128 + c % 64] := by
  unfold enc1; rw [if_pos (show Scalar c by unfold Scalar; omega), if_neg (by omega), if_pos h1]
theorem enc1_3 (c : Int) (h0 : 2048 ≤ c) (h1 : c < 65536) (h2 : c < 55296 ∨ 57343 < c) : enc1 c = [224 + c / 4096, 128 + c / 64 % 64, 128 + c % 64] := by
  unfold enc1; rw [if_pos (show Scalar c by unfold Scalar; omega), if_neg (by omega), if_neg (by omega), if_pos h1]
theorem enc1_4 (c : Int) (h0 : 65536 ≤ c) (h1 : c ≤ 1114111) : enc1 c = [240 + c / 262144, 128 + c / 4096 % 64, 128 + c / 64 % 64, 128 + c % 64] := by
  unfold enc1; rw [if_pos (show Scalar c by unfold Scalar; omega), if_neg (by omega), if_neg (by omega), if_neg (by omega)]
theorem enc1_bad (c : Int) (h : c < 0 ∨ 1114111 < c ∨ (55296 ≤ c ∧ c ≤ 57343)) : enc1 c = [239, 191, 189] := by
  unfold enc1; rw [if_neg (show ¬ Scalar c by unfold Scalar; omega)]
theorem appendRune (c : Int) (hc : -2147483648 ≤ c ∧ c ≤ 2147483647) (acc : List Int) (hl : acc.length + 4 < 140737488355328) (k : Nat) (hk : 1 ≤ k) :
    utf8_AppendRune.f k acc c = some (acc ++ enc1 c) := by
  obtain ⟨k, rfl⟩ : ∃ m, k = m + 1 := ⟨k - 1, by omega⟩
  unfold utf8_AppendRune.f
  by_cases h1 : c % 4294967296 ≤ 127
  · rw [if_pos h1, if_pos (by omega), enc1_1 c (by omega) (by omega), show c % 256 = c by omega]
  rw [if_neg h1]
  unfold utf8_appendRuneNonASCII.f
  by_cases h2 : c % 4294967296 ≤ 2047
  · rw [if_pos h2, enc1_2 c (by omega) (by omega)]
    simp only [Option.bind_some, List.length_cons, List.length_nil]
    rw [if_pos (by omega), show c / 64 % 256 = c / 64 by omega, or_192 _ (by omega) (by omega)]
    rfl
  rw [if_neg h2]
  by_cases h3 : c % 4294967296 < 55296
  · rw [if_pos h3, decide_eq_true h3, enc1_3 c (by omega) (by omega) (by omega)]
    simp only [utf8_appendRuneNonASCII.j0, if_true, Option.bind_some, List.length_cons, List.length_nil]
    rw [if_pos (by omega), show c / 4096 % 256 = c / 4096 by omega, or_224 _ (by omega) (by omega)]
    rfl
  rw [if_neg h3]
  by_cases h4 : 57343 < c % 4294967296
  · rw [if_pos h4]
    by_cases h5 : c % 4294967296 ≤ 65535
    · rw [decide_eq_true h5, enc1_3 c (by omega) (by omega) (by omega)]
      simp only [utf8_appendRuneNonASCII.j0, if_true, Option.bind_some, List.length_cons, List.length_nil]
      rw [if_pos (by omega), show c / 4096 % 256 = c / 4096 by omega, or_224 _ (by omega) (by omega)]
      rfl
    · rw [decide_eq_false h5]
      simp only [utf8_appendRuneNonASCII.j0, Bool.false_eq_true, if_false, Option.bind_some, List.length_cons, List.length_nil]
      rw [if_pos (by omega)]
      by_cases h6 : c % 4294967296 ≤ 1114111
      · rw [if_pos h6, if_pos (by omega), enc1_4 c (by omega) (by omega), show c / 262144 % 256 = c / 262144 by omega, or_240 _ (by omega) (by omega)]
        rfl
      · rw [if_neg h6, if_pos (by omega), enc1_bad c (by omega)]
        rfl
  · rw [if_neg h4]
    simp only [utf8_appendRuneNonASCII.j0, Bool.false_eq_true, if_false, Option.bind_some, List.length_cons, List.length_nil]
    rw [if_neg (by omega), if_pos (by omega), enc1_bad c (by omega)]
    rfl

theorem wrap_next (i : Int) (n : Nat) (h0 : 0 ≤ i) (h : i < (n : Int)) (hn : n ≤ 140737488355328) : wrap64 (i + 1) = i + 1 := by
  unfold wrap64; omega
theorem drop_rd (l : List Int) (i : Int) (h0 : 0 ≤ i) (h : i < (l.length : Int)) : l.drop i.toNat = rd l i :: l.drop (i + 1).toNat := by
  have hi : i.toNat < l.length := by omega
  rw [List.drop_eq_getElem_cons hi, show (i + 1).toNat = i.toNat + 1 by omega]
  unfold rd
  simp [List.getD_eq_getElem?_getD, List.getElem?_eq_getElem hi]
theorem rd_mem (l : List Int) (i : Int) (h0 : 0 ≤ i) (h : i < (l.length : Int)) : rd l i ∈ l := by
  have hi : i.toNat < l.length := by omega
  unfold rd
  simp [List.getD_eq_getElem?_getD, List.getElem?_eq_getElem hi]
def I32 (l : List Int) : Prop := ∀ c ∈ l, -2147483648 ≤ c ∧ c ≤ 2147483647

theorem encode_l0 (l : List Int) (hr : I32 l) (d : Nat) : ∀ (k : Nat) (acc : List Int) (i : Int), 0 ≤ i → i ≤ l.length → (l.length : Int) - i = d → d + 1 < k → acc.length + 4 * d + 4 < 140737488355328 → l.length ≤ 140737488355328 →
    utf_Encode.l0 k acc l (l.length : Int) i = some (strOfNums (acc ++ enc (l.drop i.toNat))) := by
  induction d with
  | zero =>
    intro k acc i h0 h1 hd hk hl hn
    obtain ⟨k, rfl⟩ : ∃ m, k = m + 1 := ⟨k - 1, by omega⟩
    simp only [utf_Encode.l0]
    rw [if_neg (by omega), List.drop_eq_nil_of_le (by omega)]
    simp [enc]
  | succ d ih =>
    intro k acc i h0 h1 hd hk hl hn
    obtain ⟨k, rfl⟩ : ∃ m, k = m + 1 := ⟨k - 1, by omega⟩
    have hlt : i < (l.length : Int) := by omega
    simp only [utf_Encode.l0]
    rw [if_pos hlt, if_pos h0, if_pos hlt, appendRune _ (hr _ (rd_mem l i h0 hlt)) _ (by omega) k (by omega)]
    simp only [Option.bind_some]
    rw [wrap_next i _ h0 hlt hn]
    have hlen := (enc1_len (rd l i)).2
    rw [ih k _ (i + 1) (by omega) (by omega) (by omega) (by omega) (by rw [List.length_append]; omega) hn, drop_rd l i h0 hlt, enc_cons, List.append_assoc]
theorem encode (l : List Int) (hr : I32 l) (hn : l.length ≤ 10000000000) (k : Nat) (hk : l.length + 2 ≤ k) : utf_Encode.f k l = some (strOfNums (enc l)) := by
  unfold utf_Encode.f
  have := encode_l0 l hr l.length k [] 0 (by omega) (by omega) (by omega) (by omega) (by simp; omega) (by omega)
  simpa using this

end Go.Proofs.Ytbdiklhffngjmaa.Uni
