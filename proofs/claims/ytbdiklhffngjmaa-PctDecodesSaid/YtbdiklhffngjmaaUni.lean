/- Plain Lean, no program: UTF-8 as lists of numbers: a number's bytes, the first code point of bytes, and that they are there and back. -/
import Derived.Test.YtbdiklhffngjmaaWWords
import Derived.Test.YtbdiklhffngjmaaWMore
import Derived.Laws.Entries
import Derived.Laws.BitsAllLaws
import Derived.Laws.BitsLemmas
namespace Go.Proofs.Ytbdiklhffngjmaa.Uni
open Go.RowKit Go.Proofs.YtbdiklhffngjmaaW.PrintWords
set_option linter.unusedVariables false
set_option linter.unusedSimpArgs false

/-! ### 1. Bits -/
theorem ofInt32 (a : Nat) (ha : a < 2147483648) : (BitVec.ofInt 32 (a : Int)).toNat = a := by
  rw [BitVec.ofInt_natCast, BitVec.toNat_ofNat]; exact Nat.mod_eq_of_lt (by omega)
theorem ofInt8 (a : Nat) (ha : a < 256) : (BitVec.ofInt 8 (a : Int)).toNat = a := by
  rw [BitVec.ofInt_natCast, BitVec.toNat_ofNat]; exact Nat.mod_eq_of_lt (by omega)
theorem or32 (a b : Nat) (ha : a < 2147483648) (hb : b < 2147483648) : bits .or .i32 (a : Int) (b : Int) = ((a ||| b : Nat) : Int) := by
  have hx : a ||| b < 2 ^ 31 := Nat.or_lt_two_pow (by omega) (by omega)
  show IntKind.i32.wrap ((BitVec.ofInt 32 (a : Int) ||| BitVec.ofInt 32 (b : Int)).toNat : Int) = _
  rw [BitVec.toNat_or, ofInt32 a ha, ofInt32 b hb]
  simp only [IntKind.wrap, IntKind.bits, IntKind.signed]
  simp
  omega
theorem or8 (a b : Nat) (ha : a < 256) (hb : b < 256) : bits .or .u8 (a : Int) (b : Int) = ((a ||| b : Nat) : Int) := by
  have hx : a ||| b < 2 ^ 8 := Nat.or_lt_two_pow (by omega) (by omega)
  show IntKind.u8.wrap ((BitVec.ofInt 8 (a : Int) ||| BitVec.ofInt 8 (b : Int)).toNat : Int) = _
  rw [BitVec.toNat_or, ofInt8 a ha, ofInt8 b hb]
  simp only [IntKind.wrap, IntKind.bits, IntKind.signed]
  simp
  omega
theorem and8 (a b : Nat) (ha : a < 256) (hb : b < 256) : bits .and .u8 (a : Int) (b : Int) = ((a &&& b : Nat) : Int) := by
  have hx : a &&& b < 2 ^ 8 := Nat.and_lt_two_pow _ (by omega)
  show IntKind.u8.wrap ((BitVec.ofInt 8 (a : Int) &&& BitVec.ofInt 8 (b : Int)).toNat : Int) = _
  rw [BitVec.toNat_and, ofInt8 a ha, ofInt8 b hb]
  simp only [IntKind.wrap, IntKind.bits, IntKind.signed]
  simp
  omega
theorem and63 (x : Int) (h0 : 0 ≤ x) (h1 : x < 256) : bits .and .u8 x 63 = x % 64 := by
  obtain ⟨n, rfl⟩ := Int.eq_ofNat_of_zero_le h0
  rw [show (63 : Int) = ((63 : Nat) : Int) from rfl, and8 n 63 (by omega) (by omega), show (63 : Nat) = 2 ^ 6 - 1 from rfl, Nat.and_two_pow_sub_one_eq_mod]
  omega
theorem or_add (q i y : Nat) (hy : y < 2 ^ i) : q * 2 ^ i ||| y = q * 2 ^ i + y := by
  rw [← Nat.shiftLeft_eq, Nat.shiftLeft_add_eq_or_of_lt hy]
theorem or_192 (x : Int) (h0 : 0 ≤ x) (h1 : x < 32) : bits .or .u8 192 x = 192 + x := by
  obtain ⟨n, rfl⟩ := Int.eq_ofNat_of_zero_le h0
  rw [show (192 : Int) = ((192 : Nat) : Int) from rfl, or8 192 n (by omega) (by omega), show (192 : Nat) = 6 * 2 ^ 5 from rfl, or_add 6 5 n (by omega)]
  omega
theorem or_224 (x : Int) (h0 : 0 ≤ x) (h1 : x < 16) : bits .or .u8 224 x = 224 + x := by
  obtain ⟨n, rfl⟩ := Int.eq_ofNat_of_zero_le h0
  rw [show (224 : Int) = ((224 : Nat) : Int) from rfl, or8 224 n (by omega) (by omega), show (224 : Nat) = 14 * 2 ^ 4 from rfl, or_add 14 4 n (by omega)]
  omega
theorem or_240 (x : Int) (h0 : 0 ≤ x) (h1 : x < 8) : bits .or .u8 240 x = 240 + x := by
  obtain ⟨n, rfl⟩ := Int.eq_ofNat_of_zero_le h0
  rw [show (240 : Int) = ((240 : Nat) : Int) from rfl, or8 240 n (by omega) (by omega), show (240 : Nat) = 30 * 2 ^ 3 from rfl, or_add 30 3 n (by omega)]
  omega
theorem or_128 (x : Int) (h0 : 0 ≤ x) (h1 : x < 64) : bits .or .u8 128 x = 128 + x := by
  obtain ⟨n, rfl⟩ := Int.eq_ofNat_of_zero_le h0
  rw [show (128 : Int) = ((128 : Nat) : Int) from rfl, or8 128 n (by omega) (by omega), show (128 : Nat) = 2 * 2 ^ 6 from rfl, or_add 2 6 n (by omega)]
  omega
theorem or_low (c y : Int) (h0 : 0 ≤ c) (h1 : c < 33554432) (h2 : 0 ≤ y) (h3 : y < 64) : bits .or .i32 (wrap32 (c * 64)) y = c * 64 + y := by
  obtain ⟨n, rfl⟩ := Int.eq_ofNat_of_zero_le h0
  obtain ⟨m, rfl⟩ := Int.eq_ofNat_of_zero_le h2
  rw [show wrap32 ((n : Int) * 64) = ((n * 2 ^ 6 : Nat) : Int) by unfold wrap32; omega, or32 _ m (by omega) (by omega), or_add n 6 m (by omega)]
  omega

/-! ### 2. Code points and bytes -/
def Scalar (c : Int) : Prop := 0 ≤ c ∧ c ≤ 1114111 ∧ (c < 55296 ∨ 57343 < c)
instance (c : Int) : Decidable (Scalar c) := by unfold Scalar; infer_instance
/-- A number's bytes. -/
def enc1 (c : Int) : List Int :=
  if Scalar c then
    if c < 128 then [c]
    else if c < 2048 then [192 + c / 64, 128 + c % 64]
    else if c < 65536 then [224 + c / 4096, 128 + c / 64 % 64, 128 + c % 64]
    else [240 + c / 262144, 128 + c / 4096 % 64, 128 + c / 64 % 64, 128 + c % 64]
  else [239, 191, 189]
def enc (l : List Int) : List Int := l.flatMap enc1
def fix (c : Int) : Int := if Scalar c then c else 65533
theorem enc_nil : enc [] = [] := rfl
theorem enc_cons (c : Int) (l : List Int) : enc (c :: l) = enc1 c ++ enc l := by simp [enc]
theorem enc_append (l m : List Int) : enc (l ++ m) = enc l ++ enc m := by simp [enc]
theorem enc1_fix (c : Int) : enc1 (fix c) = enc1 c := by
  unfold fix
  by_cases h : Scalar c
  · rw [if_pos h]
  · rw [if_neg h]; unfold enc1; rw [if_neg h, if_pos (by decide)]; decide
theorem fix_scalar (c : Int) : Scalar (fix c) := by
  unfold fix; split
  · assumption
  · decide
theorem enc_fix (l : List Int) : enc (l.map fix) = enc l := by
  induction l with
  | nil => rfl
  | cons c l ih => rw [List.map_cons, enc_cons, enc_cons, enc1_fix, ih]
theorem enc1_len (c : Int) : 1 ≤ (enc1 c).length ∧ (enc1 c).length ≤ 4 := by
  unfold enc1
  repeat' split
  all_goals simp
theorem enc_len (l : List Int) : (enc l).length ≤ 4 * l.length := by
  induction l with
  | nil => simp [enc]
  | cons c l ih => rw [enc_cons, List.length_append, List.length_cons]; have := (enc1_len c).2; omega
theorem enc1_range (c : Int) : ∀ x ∈ enc1 c, 0 ≤ x ∧ x ≤ 255 := by
  unfold enc1
  by_cases h : Scalar c
  · rw [if_pos h]
    unfold Scalar at h
    repeat' split
    all_goals simp
    all_goals omega
  · rw [if_neg h]; simp
theorem enc_range (l : List Int) : ∀ x ∈ enc l, 0 ≤ x ∧ x ≤ 255 := by
  intro x hx
  simp only [enc, List.mem_flatMap] at hx
  obtain ⟨c, _, hx⟩ := hx
  exact enc1_range c x hx

def lo2 (b : Int) : Int := if b = 224 then 160 else if b = 240 then 144 else 128
def hi2 (b : Int) : Int := if b = 237 then 159 else if b = 244 then 143 else 191
/-- The first code point of up to four bytes (-1: none), and how many it has. -/
def nx (b0 b1 b2 b3 : Int) : Int × Nat :=
  if b0 < 128 then (b0, 1)
  else if 194 ≤ b0 ∧ b0 ≤ 223 then
    if 128 ≤ b1 ∧ b1 ≤ 191 then ((b0 - 192) * 64 + (b1 - 128), 2) else (65533, 1)
  else if 224 ≤ b0 ∧ b0 ≤ 239 then
    if lo2 b0 ≤ b1 ∧ b1 ≤ hi2 b0 then
      if 128 ≤ b2 ∧ b2 ≤ 191 then ((b0 - 224) * 4096 + (b1 - 128) * 64 + (b2 - 128), 3) else (65533, 2)
    else (65533, 1)
  else if 240 ≤ b0 ∧ b0 ≤ 244 then
    if lo2 b0 ≤ b1 ∧ b1 ≤ hi2 b0 then
      if 128 ≤ b2 ∧ b2 ≤ 191 then
        if 128 ≤ b3 ∧ b3 ≤ 191 then ((b0 - 240) * 262144 + (b1 - 128) * 4096 + (b2 - 128) * 64 + (b3 - 128), 4) else (65533, 3)
      else (65533, 2)
    else (65533, 1)
  else (65533, 1)
theorem nx_pos (b0 b1 b2 b3 : Int) : 1 ≤ (nx b0 b1 b2 b3).2 ∧ (nx b0 b1 b2 b3).2 ≤ 4 := by
  unfold nx
  repeat' split
  all_goals simp
theorem nx_scalar (b0 b1 b2 b3 : Int) (h : 0 ≤ b0) : Scalar (nx b0 b1 b2 b3).1 := by
  unfold nx Scalar lo2 hi2
  repeat' split
  all_goals simp only
  all_goals omega
def nxL (L : List Int) : Int × Nat := nx (L.getD 0 (-1)) (L.getD 1 (-1)) (L.getD 2 (-1)) (L.getD 3 (-1))
theorem nxL_len (L : List Int) (h : L ≠ []) : (nxL L).2 ≤ L.length := by
  match L, h with
  | [_], _ => simp [nxL, nx, lo2, hi2]; repeat' split
              all_goals simp_all
              all_goals omega
  | [_, _], _ => simp [nxL, nx, lo2, hi2]; repeat' split
                 all_goals simp_all
  | [_, _, _], _ => simp [nxL, nx, lo2, hi2]; repeat' split
                    all_goals simp_all
  | a :: b :: c :: d :: r, _ =>
    have h4 : (nxL (a :: b :: c :: d :: r)).2 ≤ 4 := (nx_pos _ _ _ _).2
    simp only [List.length_cons]; omega
theorem nxL_pos (L : List Int) : 1 ≤ (nxL L).2 := (nx_pos _ _ _ _).1
/-- The code points of bytes. -/
def dec (L : List Int) : List Int :=
  match L with
  | [] => []
  | x :: xs => (nxL (x :: xs)).1 :: dec ((x :: xs).drop (nxL (x :: xs)).2)
termination_by L.length
decreasing_by
  have := nxL_pos (x :: xs)
  simp only [List.length_drop, List.length_cons]
  omega
theorem dec_nil : dec [] = [] := by rw [dec]
theorem dec_ne (L : List Int) (h : L ≠ []) : dec L = (nxL L).1 :: dec (L.drop (nxL L).2) := by
  match L, h with
  | x :: xs, _ => rw [dec]
theorem dec_ind {P : List Int → Prop} (h0 : P []) (h : ∀ L, L ≠ [] → P (L.drop (nxL L).2) → P L) (L : List Int) : P L := by
  generalize hn : L.length = n
  induction n using Nat.strongRecOn generalizing L with
  | _ n ih =>
    by_cases hL : L = []
    · rw [hL]; exact h0
    · refine h L hL (ih _ ?_ _ rfl)
      have := nxL_pos L
      have : 0 < L.length := List.length_pos_iff.2 hL
      rw [List.length_drop]; omega
theorem dec_len (L : List Int) : (dec L).length ≤ L.length := by
  refine dec_ind (P := fun L => (dec L).length ≤ L.length) (by rw [dec_nil]; simp) (fun L hL ih => ?_) L
  rw [dec_ne L hL, List.length_cons]
  have := nxL_pos L
  have := nxL_len L hL
  rw [List.length_drop] at ih
  omega
theorem dec_scalar (L : List Int) (h : ∀ x ∈ L, 0 ≤ x) : ∀ c ∈ dec L, Scalar c := by
  revert h
  refine dec_ind (P := fun L => (∀ x ∈ L, 0 ≤ x) → ∀ c ∈ dec L, Scalar c) (fun _ c hc => by rw [dec_nil] at hc; cases hc) (fun L hL ih h c hc => ?_) L
  rw [dec_ne L hL] at hc
  rcases List.mem_cons.1 hc with rfl | hc
  · obtain ⟨x, xs, rfl⟩ := List.exists_cons_of_ne_nil hL
    exact nx_scalar _ _ _ _ (h x (by simp))
  · exact ih (fun x hx => h x (List.mem_of_mem_drop hx)) c hc
/-- What a scalar's bytes begin with is that scalar. -/
theorem nxL_enc (c : Int) (h : Scalar c) (r : List Int) : nxL (enc1 c ++ r) = (c, (enc1 c).length) := by
  unfold enc1
  rw [if_pos h]
  unfold Scalar at h
  by_cases h1 : c < 128
  · rw [if_pos h1]; simp [nxL, nx, h1]
  rw [if_neg h1]
  by_cases h2 : c < 2048
  · rw [if_pos h2]
    have e : nxL ([192 + c / 64, 128 + c % 64] ++ r) = nx (192 + c / 64) (128 + c % 64) (([192 + c / 64, 128 + c % 64] ++ r).getD 2 (-1)) (([192 + c / 64, 128 + c % 64] ++ r).getD 3 (-1)) := rfl
    rw [e]; unfold nx
    rw [if_neg (by omega), if_pos (by omega), if_pos (by omega)]
    simp; omega
  rw [if_neg h2]
  by_cases h3 : c < 65536
  · rw [if_pos h3]
    have e : nxL ([224 + c / 4096, 128 + c / 64 % 64, 128 + c % 64] ++ r) = nx (224 + c / 4096) (128 + c / 64 % 64) (128 + c % 64) (([224 + c / 4096, 128 + c / 64 % 64, 128 + c % 64] ++ r).getD 3 (-1)) := rfl
    have hb : lo2 (224 + c / 4096) ≤ 128 + c / 64 % 64 ∧ 128 + c / 64 % 64 ≤ hi2 (224 + c / 4096) := by
      unfold lo2 hi2
      repeat' split
      all_goals omega
    rw [e]; unfold nx
    rw [if_neg (by omega), if_neg (by omega), if_pos (by omega), if_pos hb, if_pos (by omega)]
    simp; omega
  rw [if_neg h3]
  have e : nxL ([240 + c / 262144, 128 + c / 4096 % 64, 128 + c / 64 % 64, 128 + c % 64] ++ r) = nx (240 + c / 262144) (128 + c / 4096 % 64) (128 + c / 64 % 64) (128 + c % 64) := rfl
  have hb : lo2 (240 + c / 262144) ≤ 128 + c / 4096 % 64 ∧ 128 + c / 4096 % 64 ≤ hi2 (240 + c / 262144) := by
    unfold lo2 hi2
    repeat' split
    all_goals omega
  rw [e]; unfold nx
  rw [if_neg (by omega), if_neg (by omega), if_neg (by omega), if_pos (by omega), if_pos hb, if_pos (by omega), if_pos (by omega)]
  simp; omega
theorem dec_enc (l : List Int) (h : ∀ c ∈ l, Scalar c) (r : List Int) : dec (enc l ++ r) = l ++ dec r := by
  induction l with
  | nil => simp [enc]
  | cons c l ih =>
    have hc := h c (by simp)
    have hl := (enc1_len c).1
    rw [enc_cons, List.append_assoc, dec_ne _ (by intro e; have := congrArg List.length e; simp at this; simp [this.1] at hl), nxL_enc c hc]
    simp only [List.drop_left]
    rw [ih (fun x hx => h x (by simp [hx]))]
    simp
theorem dec_enc_fix (l : List Int) : dec (enc l) = l.map fix := by
  have := dec_enc (l.map fix) (fun c hc => by obtain ⟨x, _, rfl⟩ := List.mem_map.1 hc; exact fix_scalar x) []
  rw [List.append_nil, enc_fix, dec_nil, List.append_nil] at this
  exact this
theorem dec_enc_dec (L : List Int) (h : ∀ x ∈ L, 0 ≤ x) : dec (enc (dec L)) = dec L := by
  have := dec_enc (dec L) (dec_scalar L h) []
  rwa [List.append_nil, dec_nil, List.append_nil] at this
end Go.Proofs.Ytbdiklhffngjmaa.Uni
