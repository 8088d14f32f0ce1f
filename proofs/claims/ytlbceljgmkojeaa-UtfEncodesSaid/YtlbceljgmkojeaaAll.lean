/- The five statements of utf, over plain functions: Decode and Valid are the reference's, Encode is, code points are told there and back, valid bytes have one form, and are decoded for themselves. -/
import Derived.Test.YtlbceljgmkojeaaDec
namespace Go.Proofs.Ytlbceljgmkojeaa.Uni
open Go.RowKit Go.Proofs.Ytlbceljgmkojeaa.PUtf Go.Proofs.YtlbceljgmkojeaaW.PrintWords Go.Proofs.YtlbceljgmkojeaaW.PrintLast Go.Proofs.YtlbceljgmkojeaaW.PrintMore
set_option linter.unusedVariables false
set_option linter.unusedSimpArgs false

theorem same_l0 (l m : List Int) (hlm : l.length = m.length) (hn : l.length ≤ 10000000000) (d : Nat) : ∀ (k : Nat) (i : Int), 0 ≤ i → i ≤ l.length → (l.length : Int) - i = d → d < k →
    gatepostref02_Same.l0 k l m i = some (decide (l.drop i.toNat = m.drop i.toNat)) := by
  induction d with
  | zero =>
    intro k i h0 h1 hd hk
    obtain ⟨k, rfl⟩ : ∃ m, k = m + 1 := ⟨k - 1, by omega⟩
    rw [gatepostref02_Same.l0, if_neg (by omega), List.drop_eq_nil_of_le (by omega), List.drop_eq_nil_of_le (by omega)]
    simp
  | succ d ih =>
    intro k i h0 h1 hd hk
    obtain ⟨k, rfl⟩ : ∃ m, k = m + 1 := ⟨k - 1, by omega⟩
    have hlt : i < (l.length : Int) := by omega
    rw [gatepostref02_Same.l0, if_pos hlt, if_pos h0, if_pos (by omega), drop_rd l i h0 hlt, drop_rd m i h0 (by omega), wrap_next i l.length h0 hlt (by omega)]
    by_cases he : rd l i = rd m i
    · rw [if_pos he, ih k (i + 1) (by omega) (by omega) (by omega) (by omega)]
      simp [he]
    · rw [if_neg he]; simp [he]
theorem same_f (l m : List Int) (hn : l.length ≤ 10000000000) (k : Nat) (hk : l.length < k) : gatepostref02_Same.f k l m = some (decide (l = m)) := by
  unfold gatepostref02_Same.f
  by_cases h : (l.length : Int) = (m.length : Int)
  · rw [if_pos h, same_l0 l m (by omega) hn l.length k 0 (by omega) (by omega) (by omega) hk]
    simp
  · rw [if_neg h, decide_eq_false (fun e => h (by rw [e]))]
theorem dec_i32 (s : ByteArray) : I32 (dec (bytesOf s)) := by
  intro c hc
  have := dec_scalar (bytesOf s) (fun x hx => (bytesOf_range s x hx).1) c hc
  unfold Scalar at this
  omega
theorem dec_size (s : ByteArray) : (dec (bytesOf s)).length ≤ s.size := by
  have := dec_len (bytesOf s)
  rwa [bytesOf_length] at this
theorem enc_bytes (l : List Int) : bytesOf (strOfNums (enc l)) = enc l := bytesOf_strOfNums _ (enc_range l)
theorem enc_size (l : List Int) : (strOfNums (enc l)).size ≤ 4 * l.length := by
  rw [← bytesOf_length, enc_bytes]
  exact enc_len l
def valid (s : ByteArray) : Bool := decide (enc (dec (bytesOf s)) = bytesOf s)
theorem valid_f (s : ByteArray) (hs : s.size ≤ 1000000000) (k : Nat) (hk : s.size + 12 < k) : utf_Valid.f k s = some (valid s) := by
  unfold utf_Valid.f valid
  have := dec_size s
  rw [decode s (by omega) k (by omega)]
  simp only [Option.bind_some]
  rw [encode _ (dec_i32 s) (by omega) k (by omega)]
  simp only [Option.bind_some]
  rw [toList_beq, enc_bytes]
theorem refValid_f (s : ByteArray) (hs : s.size ≤ 1000000000) (k : Nat) (hk : s.size + 12 < k) : gatepostref02_Valid.f k s = some (valid s) := by
  unfold gatepostref02_Valid.f valid
  have := dec_size s
  rw [refDecode s (by omega) k (by omega)]
  simp only [Option.bind_some]
  rw [refEncode _ (by omega) k (by omega)]
  simp only [Option.bind_some]
  rw [toList_beq, enc_bytes]
theorem dec_one : dec [226, 130, 65] = [65533, 65] := by
  rw [dec_ne _ (by simp), show nxL [226, 130, 65] = (65533, 2) from rfl]
  show 65533 :: dec [65] = _
  rw [dec_ne _ (by simp), show nxL [65] = (65, 1) from rfl]
  show [65533, 65] ++ dec [] = _
  rw [dec_nil]; rfl
theorem dec_two : dec [226, 130, 172] = [8364] := by
  rw [dec_ne _ (by simp), show nxL [226, 130, 172] = (8364, 3) from rfl]
  show 8364 :: dec [] = _
  rw [dec_nil]
theorem dec_three : dec [255] = [65533] := by
  rw [dec_ne _ (by simp), show nxL [255] = (65533, 1) from rfl]
  show 65533 :: dec [] = _
  rw [dec_nil]
theorem awake (k : Nat) (hk : 30 ≤ k) : gatepostlaw02_awake.f k = some true := by
  unfold gatepostlaw02_awake.f
  have z1 : (⟨#[226, 130, 65]⟩ : ByteArray).size = 3 := rfl
  have z2 : (⟨#[226, 130, 172]⟩ : ByteArray).size = 3 := rfl
  have z3 : (⟨#[255]⟩ : ByteArray).size = 1 := rfl
  rw [decode _ (by rw [z1]; omega) k (by rw [z1]; omega), show bytesOf ⟨#[226, 130, 65]⟩ = [226, 130, 65] from rfl, dec_one]
  simp only [Option.bind_some]
  rw [if_pos (show ((([65533, 65] : List Int).length : Nat) : Int) = 2 from rfl), if_pos (by decide), if_pos (show rd [65533, 65] 0 = 65533 from rfl), if_pos (by decide), if_pos (show rd [65533, 65] 1 = 65 from rfl), encode _ (by intro c hc; simp at hc; omega) (by simp) k (by simp; omega)]
  simp only [Option.bind_some]
  rw [if_pos (by rw [ByteArray.toList_eq]; rfl), valid_f _ (by rw [z2]; omega) k (by rw [z2]; omega), valid_f _ (by rw [z3]; omega) k (by rw [z3]; omega)]
  simp only [Option.bind_some]
  have v1 : valid ⟨#[226, 130, 172]⟩ = true := by
    unfold valid
    rw [show bytesOf ⟨#[226, 130, 172]⟩ = [226, 130, 172] from rfl, dec_two]; rfl
  have v2 : valid ⟨#[255]⟩ = false := by
    unfold valid
    rw [show bytesOf ⟨#[255]⟩ = [255] from rfl, dec_three]; rfl
  rw [v1, v2]; rfl

theorem utfDecodes : gatepostlaw02_UtfDecodes.Pure := by
  intro s hs
  refine ⟨10000, ?_⟩
  unfold gatepostlaw02_UtfDecodes.f
  rw [awake _ (by omega)]
  simp only [Option.bind_some]
  by_cases h : (s.size : Int) > 200
  · rw [if_pos h]
  have := dec_size s
  rw [if_neg h, if_pos trivial, decode s (by omega) _ (by omega), refDecode s (by omega) _ (by omega)]
  simp only [Option.bind_some]
  rw [same_f _ _ (by omega) _ (by omega), valid_f s (by omega) _ (by omega), refValid_f s (by omega) _ (by omega)]
  simp
theorem i32_of_wf {l : List Int} (h : ∀ x ∈ l, (Lit.int .i32 x).wf = true) : I32 l := by
  intro c hc
  have := h c hc
  simp only [Lit.wf, IntKind.min, IntKind.max, IntKind.signed, IntKind.bits, Bool.and_eq_true, decide_eq_true_eq, if_true] at this
  omega
theorem utfEncodes : gatepostlaw02_UtfEncodes.Pure := by
  intro l _ _ hwf
  refine ⟨10000, ?_⟩
  unfold gatepostlaw02_UtfEncodes.f
  rw [awake _ (by omega)]
  simp only [Option.bind_some]
  by_cases h : (l.length : Int) > 100
  · rw [if_pos h]
  rw [if_neg h, if_pos trivial, encode l (i32_of_wf hwf) (by omega) _ (by omega), refEncode l (by omega) _ (by omega)]
  simp
theorem rd_map_fix (l : List Int) (i : Int) (h0 : 0 ≤ i) (h : i < (l.length : Int)) : rd (l.map fix) i = fix (rd l i) := by
  have hi : i.toNat < l.length := by omega
  unfold rd
  simp [List.getD_eq_getElem?_getD, List.getElem?_eq_getElem hi]
theorem utfBack_l0 (l : List Int) (s : ByteArray) (hs : s.size ≤ 400) (hv : valid s = true) (hn : l.length ≤ 100) (d : Nat) : ∀ (k : Nat) (i : Int), 0 ≤ i → i ≤ l.length → (l.length : Int) - i = d → s.size + 20 + d < k →
    gatepostlaw02_UtfBack.l0 k l true s (l.map fix) i = some true := by
  induction d with
  | zero =>
    intro k i h0 h1 hd hk
    obtain ⟨k, rfl⟩ : ∃ m, k = m + 1 := ⟨k - 1, by omega⟩
    rw [gatepostlaw02_UtfBack.l0, if_neg (by omega), if_pos rfl, valid_f s (by omega) k (by omega), hv]
    rfl
  | succ d ih =>
    intro k i h0 h1 hd hk
    obtain ⟨k, rfl⟩ : ∃ m, k = m + 1 := ⟨k - 1, by omega⟩
    have hlt : i < (l.length : Int) := by omega
    have hlt2 : i < ((l.map fix).length : Int) := by rw [List.length_map]; exact hlt
    rw [gatepostlaw02_UtfBack.l0, if_pos hlt, if_pos h0, scalar_f]
    simp only [Option.bind_some]
    rw [wrap_next i l.length h0 hlt (by omega), ih k (i + 1) (by omega) (by omega) (by omega) (by omega), rd_map_fix l i h0 hlt]
    by_cases hc : Scalar (rd l i)
    · have hf : fix (rd l i) = rd l i := by unfold fix; rw [if_pos hc]
      rw [decide_eq_true hc, if_pos rfl, if_pos hlt2, hf, if_pos rfl, if_pos rfl]
    · have hf : fix (rd l i) = 65533 := by unfold fix; rw [if_neg hc]
      rw [decide_eq_false hc, if_neg (by simp), if_neg (by simp), if_pos hlt2, hf, if_pos rfl]
theorem valid_enc (l : List Int) : valid (strOfNums (enc l)) = true := by
  unfold valid
  rw [enc_bytes, dec_enc_fix, enc_fix]
  simp
theorem utfBack : gatepostlaw02_UtfBack.Pure := by
  intro l _ _ hwf
  refine ⟨10000, ?_⟩
  unfold gatepostlaw02_UtfBack.f
  rw [awake _ (by omega)]
  simp only [Option.bind_some]
  by_cases h : (l.length : Int) > 100
  · rw [if_pos h]
  have hsz := enc_size l
  rw [if_neg h, encode l (i32_of_wf hwf) (by omega) _ (by omega)]
  simp only [Option.bind_some]
  rw [decode _ (by omega) _ (by omega), enc_bytes, dec_enc_fix]
  simp only [Option.bind_some]
  rw [if_pos (by rw [List.length_map])]
  exact utfBack_l0 l _ (by omega) (valid_enc l) (by omega) l.length _ 0 (by omega) (by omega) (by omega) (by omega)
theorem utfOnce_l0 (s : ByteArray) (hs : s.size ≤ 200) (d : Nat) : ∀ (k : Nat) (i : Int), 0 ≤ i → i ≤ (dec (bytesOf s)).length → ((dec (bytesOf s)).length : Int) - i = d → 1000 + d < k →
    gatepostlaw02_UtfOnce.l0 k s true (dec (bytesOf s)) (strOfNums (enc (dec (bytesOf s)))) i = some true := by
  have hlen := dec_size s
  have hsz := enc_size (dec (bytesOf s))
  induction d with
  | zero =>
    intro k i h0 h1 hd hk
    obtain ⟨k, rfl⟩ : ∃ m, k = m + 1 := ⟨k - 1, by omega⟩
    rw [gatepostlaw02_UtfOnce.l0, if_neg (by omega), if_pos rfl, decode _ (by omega) k (by omega), enc_bytes, dec_enc_dec _ (fun x hx => (bytesOf_range s x hx).1)]
    simp only [Option.bind_some]
    rw [same_f _ _ (by omega) k (by omega), decide_eq_true rfl]
    simp only [Option.bind_some, if_true]
    rw [valid_f _ (by omega) k (by omega), valid_enc]
    simp only [Option.bind_some, if_true]
    rw [valid_f s (by omega) k (by omega)]
    simp only [Option.bind_some]
    have hv : (valid s == (s.toList == (strOfNums (enc (dec (bytesOf s)))).toList)) = true := by
      rw [toList_beq, enc_bytes, beq_iff_eq]
      unfold valid
      rw [Bool.eq_iff_iff]
      simp [eq_comm]
    rw [if_pos hv, decide_eq_true (by omega)]
  | succ d ih =>
    intro k i h0 h1 hd hk
    obtain ⟨k, rfl⟩ : ∃ m, k = m + 1 := ⟨k - 1, by omega⟩
    have hlt : i < ((dec (bytesOf s)).length : Int) := by omega
    have hc := dec_scalar (bytesOf s) (fun x hx => (bytesOf_range s x hx).1) _ (rd_mem _ i h0 hlt)
    rw [gatepostlaw02_UtfOnce.l0, if_pos hlt, if_pos h0, scalar_f, decide_eq_true hc]
    simp only [Option.bind_some, if_true]
    rw [wrap_next i _ h0 hlt (by omega)]
    exact ih k (i + 1) (by omega) (by omega) (by omega) (by omega)
theorem utfOnce : gatepostlaw02_UtfOnce.Pure := by
  intro s hs
  refine ⟨10000, ?_⟩
  unfold gatepostlaw02_UtfOnce.f
  rw [awake _ (by omega)]
  simp only [Option.bind_some]
  by_cases h : (s.size : Int) > 200
  · rw [if_pos h]
  have hlen := dec_size s
  rw [if_neg h, decode s (by omega) _ (by omega)]
  simp only [Option.bind_some]
  rw [encode _ (dec_i32 s) (by omega) _ (by omega)]
  simp only [Option.bind_some]
  exact utfOnce_l0 s (by omega) (dec (bytesOf s)).length _ 0 (by omega) (by omega) (by omega) (by omega)
theorem utfJoins : gatepostlaw02_UtfJoins.Pure := by
  intro a b ha hb
  refine ⟨10000, ?_⟩
  unfold gatepostlaw02_UtfJoins.f
  rw [awake _ (by omega)]
  simp only [Option.bind_some]
  by_cases h1 : (a.size : Int) > 200
  · rw [if_pos h1, gatepostlaw02_UtfJoins.j0, if_pos rfl]
  rw [if_neg h1]
  by_cases h2 : (b.size : Int) > 200
  · rw [if_pos h2, gatepostlaw02_UtfJoins.j0, if_pos rfl]
  rw [if_neg h2, refValid_f a (by omega) _ (by omega)]
  simp only [Option.bind_some]
  by_cases hv : valid a = true
  · have da := dec_size a
    have db := dec_size b
    have hab : (a ++ b).size = a.size + b.size := by rw [ByteArray.size_append]
    have hea : enc (dec (bytesOf a)) = bytesOf a := by unfold valid at hv; simpa using hv
    have hdec : dec (bytesOf (a ++ b)) = dec (bytesOf a) ++ dec (bytesOf b) := by
      rw [bytesOf_append]
      conv => lhs; rw [← hea]
      exact dec_enc _ (dec_scalar (bytesOf a) (fun x hx => (bytesOf_range a x hx).1)) _
    have hvv : valid (a ++ b) = valid b := by
      unfold valid
      rw [hdec, enc_append, bytesOf_append, hea]
      simp
    rw [hv, gatepostlaw02_UtfJoins.j0, if_neg (by simp)]
    simp only [Option.bind_some]
    rw [decode a (by omega) _ (by omega)]
    simp only [Option.bind_some, List.length_nil, List.nil_append]
    rw [if_pos (by omega), decode b (by omega) _ (by omega)]
    simp only [Option.bind_some]
    rw [if_pos (by omega), if_pos trivial, if_pos (by omega), decode _ (by omega) _ (by omega), hdec]
    simp only [Option.bind_some]
    rw [same_f _ _ (by rw [List.length_append]; omega) _ (by rw [List.length_append]; omega), valid_f _ (by omega) _ (by omega), valid_f b (by omega) _ (by omega), hvv]
    simp
  · have hv' : valid a = false := by simpa using hv
    rw [hv', gatepostlaw02_UtfJoins.j0, if_pos (show (!false) = true from rfl)]
end Go.Proofs.Ytlbceljgmkojeaa.Uni
