/- Plain Lean: what the reference of chapter 03 comes to, and the five statements on plain functions. -/
import Derived.Test.YtbdiklhffngjmaaConB
namespace Go.Proofs.Ytbdiklhffngjmaa
open Go.RowKit Go.Proofs.Ytbdiklhffngjmaa.Uni Go.Proofs.Ytbdiklhffngjmaa.PPct Go.Proofs.YtbdiklhffngjmaaW.PrintWords
set_option linter.unusedVariables false
set_option linter.unusedSimpArgs false

/-- From some number of rounds on. -/
def Ev {α : Type} (g : Nat → Option α) (r : α) : Prop := ∃ k0, ∀ k, k0 ≤ k → g k = some r
theorem Ev.succ {α : Type} {g h : Nat → Option α} {r : α} (hg : ∀ k, g (k + 1) = h k) (hh : Ev h r) : Ev g r := by
  obtain ⟨k0, hk⟩ := hh
  refine ⟨k0 + 1, fun k hk1 => ?_⟩
  obtain ⟨k', rfl⟩ : ∃ k', k = k' + 1 := ⟨k - 1, by omega⟩
  rw [hg]; exact hk k' (by omega)
theorem Ev.of {α : Type} {g h : Nat → Option α} {r : α} (hg : ∀ k, g k = h k) (hh : Ev h r) : Ev g r := by
  obtain ⟨k0, hk⟩ := hh
  exact ⟨k0, fun k hk1 => (hg k).trans (hk k hk1)⟩
theorem Ev.done {α : Type} (r : α) : Ev (fun _ => some r) r := ⟨0, fun _ _ => rfl⟩
theorem Ev.bind {α β : Type} {g : Nat → Option α} {h : Nat → α → Option β} {a : α} {b : β} (hg : Ev g a) (hh : Ev (fun k => h k a) b) : Ev (fun k => (g k).bind (h k)) b := by
  obtain ⟨k0, h0⟩ := hg
  obtain ⟨k1, h1⟩ := hh
  refine ⟨k0 + k1, fun k hk => ?_⟩
  show (g k).bind (h k) = some b
  rw [h0 k (by omega)]
  exact h1 k (by omega)
theorem wrap64_id (x : Int) (h0 : -1000000000000 ≤ x) (h1 : x ≤ 1000000000000) : wrap64 x = x := by unfold wrap64; omega
theorem wrap32_byte (x : Int) (h : 0 ≤ x ∧ x ≤ 255) : wrap32 x = x := by unfold wrap32; omega
theorem drop_byte (s : ByteArray) (i : Nat) (h : i < s.size) : (bytesOf s).drop i = bt s (i : Int) :: (bytesOf s).drop (i + 1) := by
  have hl : i < (bytesOf s).length := by rw [bytesOf_length]; exact h
  rw [List.drop_eq_getElem_cons hl, ← rd_bytesOf]
  unfold rd
  simp [List.getD_eq_getElem?_getD, List.getElem?_eq_getElem hl]

/-! ### 1. The reference's sets -/
theorem one_ev (c : Int) (s : ByteArray) (hs : s.size ≤ 1000) : ∀ m i, s.size - i = m → i ≤ s.size → Ev (fun k => gatepostref03_one.l0 k c s (i : Int)) (inL c ((bytesOf s).drop i)) := by
  intro m
  induction m with
  | zero =>
    intro i hm hi
    obtain rfl : i = s.size := by omega
    refine Ev.succ (h := fun _ => some false) (fun k => ?_) ?_
    · simp only [gatepostref03_one.l0]; rw [if_neg (by omega)]
    · rw [List.drop_eq_nil_of_le (by rw [bytesOf_length]; exact Nat.le_refl _)]
      exact Ev.done false
  | succ m ih =>
    intro i hm hi
    rw [drop_byte s i (by omega)]
    have hr := bt_range s (i : Int)
    have hw := wrap64_id ((i : Int) + 1) (by omega) (by omega)
    by_cases hc : c = bt s (i : Int)
    · refine Ev.succ (h := fun _ => some true) (fun k => ?_) ?_
      · simp only [gatepostref03_one.l0]; rw [if_pos (by omega), if_pos (by omega), if_pos (by rw [wrap32_byte _ hr]; exact hc)]
      · have : inL c (bt s (i : Int) :: (bytesOf s).drop (i + 1)) = true := by unfold inL; simp [hc]
        rw [this]; exact Ev.done true
    · have hi1 := ih (i + 1) (by omega) (by omega)
      refine Ev.succ (h := fun k => gatepostref03_one.l0 k c s (((i + 1 : Nat)) : Int)) (fun k => ?_) ?_
      · simp only [gatepostref03_one.l0]; rw [if_pos (by omega), if_pos (by omega), if_neg (by rw [wrap32_byte _ hr]; exact hc), hw]; rfl
      · have : inL c (bt s (i : Int) :: (bytesOf s).drop (i + 1)) = inL c ((bytesOf s).drop (i + 1)) := by unfold inL; simp [hc]
        rw [this]; exact hi1
theorem one_f (c : Int) (s : ByteArray) (hs : s.size ≤ 1000) : Ev (fun k => gatepostref03_one.f k c s) (inL c (bytesOf s)) := by
  have := one_ev c s hs _ 0 rfl (by omega)
  simpa [gatepostref03_one.f] using this
theorem j3_ev (s c : Int) (b5 b6 b7 b8 : Bool) : Ev (fun k => gatepostref03_In.j3 k s c b5 b6 b7 b8)
    (if s = 1 then b5 else if s = 2 then b5 || inL c [32, 34, 60, 62, 96] else if s = 3 then b6 else if s = 4 then b6 || decide (c = 39) else if s = 5 then b7 else if s = 6 then b8 else if s = 7 then b8 || inL c [36, 37, 38, 43, 44] else false) := by
  have o1 := one_f c (⟨#[32, 34, 60, 62, 96]⟩ : ByteArray) (by decide)
  have o2 := one_f c (⟨#[36, 37, 38, 43, 44]⟩ : ByteArray) (by decide)
  rw [show bytesOf (⟨#[32, 34, 60, 62, 96]⟩ : ByteArray) = [32, 34, 60, 62, 96] from rfl] at o1
  rw [show bytesOf (⟨#[36, 37, 38, 43, 44]⟩ : ByteArray) = [36, 37, 38, 43, 44] from rfl] at o2
  by_cases h1 : s = 1
  · rw [if_pos h1]
    refine Ev.succ (h := fun _ => some b5) (fun k => ?_) (Ev.done _)
    simp only [gatepostref03_In.j3]; rw [if_pos h1]
  rw [if_neg h1]
  by_cases h2 : s = 2
  · rw [if_pos h2]
    cases b5
    · refine Ev.succ (h := fun k => (gatepostref03_one.f k c (⟨#[32, 34, 60, 62, 96]⟩ : ByteArray)).bind fun t112 => some t112) (fun k => ?_) (Ev.bind o1 ?_)
      · simp only [gatepostref03_In.j3]; rw [if_neg h1, if_pos h2, if_neg (by decide)]
      · simpa using Ev.done _
    · refine Ev.succ (h := fun _ => some true) (fun k => ?_) (by simpa using Ev.done true)
      simp only [gatepostref03_In.j3]; rw [if_neg h1, if_pos h2, if_pos trivial]
  rw [if_neg h2]
  by_cases h3 : s = 3
  · rw [if_pos h3]
    refine Ev.succ (h := fun _ => some b6) (fun k => ?_) (Ev.done _)
    simp only [gatepostref03_In.j3]; rw [if_neg h1, if_neg h2, if_pos h3]
  rw [if_neg h3]
  by_cases h4 : s = 4
  · rw [if_pos h4]
    refine Ev.succ (h := fun _ => some (b6 || decide (c = 39))) (fun k => ?_) (Ev.done _)
    simp only [gatepostref03_In.j3]; rw [if_neg h1, if_neg h2, if_neg h3, if_pos h4]
    cases b6
    · rw [if_neg (by decide)]; by_cases hc : c = 39 <;> simp [hc]
    · rw [if_pos rfl]; rfl
  rw [if_neg h4]
  by_cases h5 : s = 5
  · rw [if_pos h5]
    refine Ev.succ (h := fun _ => some b7) (fun k => ?_) (Ev.done _)
    simp only [gatepostref03_In.j3]; rw [if_neg h1, if_neg h2, if_neg h3, if_neg h4, if_pos h5]
  rw [if_neg h5]
  by_cases h6 : s = 6
  · rw [if_pos h6]
    refine Ev.succ (h := fun _ => some b8) (fun k => ?_) (Ev.done _)
    simp only [gatepostref03_In.j3]; rw [if_neg h1, if_neg h2, if_neg h3, if_neg h4, if_neg h5, if_pos h6]
  rw [if_neg h6]
  by_cases h7 : s = 7
  · rw [if_pos h7]
    cases b8
    · refine Ev.succ (h := fun k => (gatepostref03_one.f k c (⟨#[36, 37, 38, 43, 44]⟩ : ByteArray)).bind fun t113 => some t113) (fun k => ?_) (Ev.bind o2 ?_)
      · simp only [gatepostref03_In.j3]; rw [if_neg h1, if_neg h2, if_neg h3, if_neg h4, if_neg h5, if_neg h6, if_pos h7, if_neg (by decide)]
      · simpa using Ev.done _
    · refine Ev.succ (h := fun _ => some true) (fun k => ?_) (by simpa using Ev.done true)
      simp only [gatepostref03_In.j3]; rw [if_neg h1, if_neg h2, if_neg h3, if_neg h4, if_neg h5, if_neg h6, if_pos h7, if_pos trivial]
  rw [if_neg h7]
  refine Ev.succ (h := fun _ => some false) (fun k => ?_) (Ev.done _)
  simp only [gatepostref03_In.j3]; rw [if_neg h1, if_neg h2, if_neg h3, if_neg h4, if_neg h5, if_neg h6, if_neg h7]
theorem j2_ev (s c : Int) (b5 b6 b7 : Bool) {r : Bool} (h : Ev (fun k => gatepostref03_In.j3 k s c b5 b6 b7 (b7 || inL c [47, 58, 59, 61, 64, 91, 92, 93, 124])) r) : Ev (fun k => gatepostref03_In.j2 k s c b5 b6 b7) r := by
  have o := one_f c (⟨#[47, 58, 59, 61, 64, 91, 92, 93, 124]⟩ : ByteArray) (by decide)
  rw [show bytesOf (⟨#[47, 58, 59, 61, 64, 91, 92, 93, 124]⟩ : ByteArray) = [47, 58, 59, 61, 64, 91, 92, 93, 124] from rfl] at o
  cases b7
  · refine Ev.succ (h := fun k => (gatepostref03_one.f k c (⟨#[47, 58, 59, 61, 64, 91, 92, 93, 124]⟩ : ByteArray)).bind fun t111 => gatepostref03_In.j3 k s c b5 b6 false t111) (fun k => ?_) (Ev.bind o (by simpa using h))
    simp only [gatepostref03_In.j2]; rw [if_neg (by decide)]
  · refine Ev.succ (h := fun k => gatepostref03_In.j3 k s c b5 b6 true true) (fun k => ?_) (by simpa using h)
    simp only [gatepostref03_In.j2]; rw [if_pos trivial]
theorem j1_ev (s c : Int) (b5 b6 : Bool) {r : Bool} (h : Ev (fun k => gatepostref03_In.j2 k s c b5 b6 (b6 || inL c [63, 94, 123, 125, 96])) r) : Ev (fun k => gatepostref03_In.j1 k s c b5 b6) r := by
  have o := one_f c (⟨#[63, 94, 123, 125, 96]⟩ : ByteArray) (by decide)
  rw [show bytesOf (⟨#[63, 94, 123, 125, 96]⟩ : ByteArray) = [63, 94, 123, 125, 96] from rfl] at o
  cases b6
  · refine Ev.succ (h := fun k => (gatepostref03_one.f k c (⟨#[63, 94, 123, 125, 96]⟩ : ByteArray)).bind fun t110 => gatepostref03_In.j2 k s c b5 false t110) (fun k => ?_) (Ev.bind o (by simpa using h))
    simp only [gatepostref03_In.j1]; rw [if_neg (by decide)]
  · refine Ev.succ (h := fun k => gatepostref03_In.j2 k s c b5 true true) (fun k => ?_) (by simpa using h)
    simp only [gatepostref03_In.j1]; rw [if_pos trivial]
theorem j0_ev (s c : Int) (b5 : Bool) {r : Bool} (h : Ev (fun k => gatepostref03_In.j1 k s c b5 (b5 || inL c [32, 34, 35, 60, 62])) r) : Ev (fun k => gatepostref03_In.j0 k s c b5) r := by
  have o := one_f c (⟨#[32, 34, 35, 60, 62]⟩ : ByteArray) (by decide)
  rw [show bytesOf (⟨#[32, 34, 35, 60, 62]⟩ : ByteArray) = [32, 34, 35, 60, 62] from rfl] at o
  cases b5
  · refine Ev.succ (h := fun k => (gatepostref03_one.f k c (⟨#[32, 34, 35, 60, 62]⟩ : ByteArray)).bind fun t109 => gatepostref03_In.j1 k s c false t109) (fun k => ?_) (Ev.bind o (by simpa using h))
    simp only [gatepostref03_In.j0]; rw [if_neg (by decide)]
  · refine Ev.succ (h := fun k => gatepostref03_In.j1 k s c true true) (fun k => ?_) (by simpa using h)
    simp only [gatepostref03_In.j0]; rw [if_pos trivial]
theorem refIn_f (s c : Int) : Ev (fun k => gatepostref03_In.f k s c) (inS s c) := by
  have h : Ev (fun k => gatepostref03_In.j0 k s c (ctl c)) (inS s c) := by
    refine j0_ev s c _ (j1_ev s c _ _ (j2_ev s c _ _ _ ?_))
    have := j3_ev s c (ctl c) (qryS c) (pthS c) (usrS c)
    unfold inS
    exact this
  refine Ev.of (fun k => ?_) h
  unfold gatepostref03_In.f ctl
  by_cases hc : c < 32
  · rw [if_pos hc]; simp [hc]
  · rw [if_neg hc]; simp [hc]

/-! ### 2. The reference's Encode -/
theorem figure_f (n : Int) (h0 : 0 ≤ n) (h1 : n < 16) : gatepostref03_figure.f n = some (hexd n) := by
  unfold gatepostref03_figure.f hexd
  split <;> (congr 1; omega)
theorem refEnc_l1 (s : Int) (l : List Int) (i : Nat) (hi : i < l.length) (t : ByteArray) (ht : t.size ≤ 4) {r : ByteArray} : ∀ m j (acc : List Int), t.size - j = m → j ≤ t.size → acc.length ≤ 100000000000 + 3 * j →
    Ev (fun k => gatepostref03_Encode.l0 k s l (acc ++ ((bytesOf t).drop j).flatMap (fun b => if inS s (rd l (i : Int)) then sign1 b else [b])) (wrap64 ((i : Int) + 1))) r →
    Ev (fun k => gatepostref03_Encode.l1 k s l acc (i : Int) t (j : Int)) r := by
  intro m
  induction m with
  | zero =>
    intro j acc hm hj hl h
    obtain rfl : j = t.size := by omega
    rw [List.drop_eq_nil_of_le (by rw [bytesOf_length]; exact Nat.le_refl _)] at h
    refine Ev.succ (fun k => ?_) (by simpa using h)
    simp only [gatepostref03_Encode.l1]; rw [if_neg (by omega)]
  | succ m ih =>
    intro j acc hm hj hl h
    have hb := bt_range t (j : Int)
    have hw := wrap64_id ((j : Int) + 1) (by omega) (by omega)
    rw [drop_byte t j (by omega), List.flatMap_cons, ← List.append_assoc] at h
    have hIn := refIn_f s (rd l (i : Int))
    cases hs : inS s (rd l (i : Int))
    · rw [hs] at hIn
      simp only [hs, Bool.false_eq_true, if_false] at h
      have h' := ih (j + 1) (acc ++ [bt t (j : Int)]) (by omega) (by omega) (by simp; omega) (by simp only [hs, Bool.false_eq_true, if_false]; exact h)
      refine Ev.succ (h := fun k => (gatepostref03_In.f k s (rd l (i : Int))).bind fun t149 => (if t149 = true then (if 0 ≤ (j : Int) then ((gatepostref03_figure.f ((Int.tdiv (bt t (j : Int)) 16) % 256)).bind fun t150 => ((gatepostref03_figure.f (Int.tmod (bt t (j : Int)) 16)).bind fun t151 => ((some (([37, t150, t151] : List Int) : List Int)).bind fun y152 => (if acc.length + y152.length < 140737488355328 then (gatepostref03_Encode.l1 k s l (acc ++ y152) (i : Int) t (wrap64 ((j : Int) + 1))) else (none))))) else (none)) else (if 0 ≤ (j : Int) then (if acc.length < 140737488355328 then (gatepostref03_Encode.l1 k s l (acc ++ [bt t (j : Int)]) (i : Int) t (wrap64 ((j : Int) + 1))) else (none)) else (none)))) (fun k => ?_) (Ev.bind hIn (Ev.of (fun k => ?_) h'))
      · simp only [gatepostref03_Encode.l1]; rw [if_pos (by omega), if_pos (by omega), if_pos (by omega)]
      · rw [if_neg (by decide), if_pos (by omega), if_pos (by omega), hw]; rfl
    · rw [hs] at hIn
      simp only [hs, if_true] at h
      have h' := ih (j + 1) (acc ++ sign1 (bt t (j : Int))) (by omega) (by omega) (by simp [sign1]; omega) (by simp only [hs, if_true]; exact h)
      refine Ev.succ (h := fun k => (gatepostref03_In.f k s (rd l (i : Int))).bind fun t149 => (if t149 = true then (if 0 ≤ (j : Int) then ((gatepostref03_figure.f ((Int.tdiv (bt t (j : Int)) 16) % 256)).bind fun t150 => ((gatepostref03_figure.f (Int.tmod (bt t (j : Int)) 16)).bind fun t151 => ((some (([37, t150, t151] : List Int) : List Int)).bind fun y152 => (if acc.length + y152.length < 140737488355328 then (gatepostref03_Encode.l1 k s l (acc ++ y152) (i : Int) t (wrap64 ((j : Int) + 1))) else (none))))) else (none)) else (if 0 ≤ (j : Int) then (if acc.length < 140737488355328 then (gatepostref03_Encode.l1 k s l (acc ++ [bt t (j : Int)]) (i : Int) t (wrap64 ((j : Int) + 1))) else (none)) else (none)))) (fun k => ?_) (Ev.bind hIn (Ev.of (fun k => ?_) h'))
      · simp only [gatepostref03_Encode.l1]; rw [if_pos (by omega), if_pos (by omega), if_pos (by omega)]
      · rw [if_pos rfl, if_pos (by omega), Int.tdiv_eq_ediv_of_nonneg hb.1, Int.tmod_eq_emod_of_nonneg hb.1, Int.emod_eq_of_lt (by omega) (by omega), figure_f _ (by omega) (by omega), figure_f _ (by omega) (by omega)]
        simp only [Option.bind_some]
        rw [if_pos (by simp; omega), hw]; rfl
theorem flat_sign (s c : Int) : (enc1 c).flatMap (fun b => if inS s c then sign1 b else [b]) = enc1S s c := by
  unfold enc1S
  cases inS s c
  · simp
  · simp
theorem refEnc_l0 (s : Int) (l : List Int) (hn : l.length ≤ 1000000) : ∀ m i (acc : List Int), l.length - i = m → i ≤ l.length → acc.length ≤ 12 * i →
    Ev (fun k => gatepostref03_Encode.l0 k s l acc (i : Int)) (strOfNums (acc ++ encS s (l.drop i))) := by
  intro m
  induction m with
  | zero =>
    intro i acc hm hi hl
    obtain rfl : i = l.length := by omega
    refine Ev.succ (h := fun _ => some (strOfNums acc)) (fun k => ?_) ?_
    · simp only [gatepostref03_Encode.l0]; rw [if_neg (by omega)]
    · rw [List.drop_eq_nil_of_le (Nat.le_refl _)]
      simpa [encS] using Ev.done (strOfNums acc)
  | succ m ih =>
    intro i acc hm hi hl
    have hlt : i < l.length := by omega
    have hw := wrap64_id ((i : Int) + 1) (by omega) (by omega)
    have hd := drop_rd l (i : Int) (by omega) (by omega)
    rw [Int.toNat_natCast, show ((i : Int) + 1).toNat = i + 1 by omega] at hd
    have hcut : (l.take (((i : Int) + 1).toNat)).drop (i : Int).toNat = [rd l (i : Int)] := by
      rw [Int.toNat_natCast, show ((i : Int) + 1).toNat = i + 1 by omega, List.drop_take, hd, show i + 1 - i = 1 by omega]
      rfl
    have hr : Ev (fun k => gatepostref02_Encode.f k [rd l (i : Int)]) (strOfNums (enc [rd l (i : Int)])) := ⟨2, fun k hk => refEncode [rd l (i : Int)] (by simp) k (by simp; omega)⟩
    have hbs : bytesOf (strOfNums (enc [rd l (i : Int)])) = enc1 (rd l (i : Int)) := by rw [bytesOf_strOfNums _ (enc_range _)]; simp [enc]
    have hsz : (strOfNums (enc [rd l (i : Int)])).size ≤ 4 := by rw [← bytesOf_length, hbs]; exact (enc1_len _).2
    have hnext := ih (i + 1) (acc ++ enc1S s (rd l (i : Int))) (by omega) (by omega) (by rw [List.length_append]; have := enc1S_len s (rd l (i : Int)); omega)
    rw [List.append_assoc, ← encS_cons, ← hd] at hnext
    refine Ev.succ (h := fun k => (gatepostref02_Encode.f k [rd l (i : Int)]).bind fun t147 => (gatepostref03_Encode.l1 k s l acc (i : Int) t147 0)) (fun k => ?_) (Ev.bind hr (refEnc_l1 s l i hlt _ hsz _ 0 acc rfl (by omega) (by omega) ?_))
    · simp only [gatepostref03_Encode.l0]; rw [if_pos (by omega), if_pos (by omega), if_pos (by omega), if_pos (by omega), hw, hcut]
    · rw [List.drop_zero, hbs, flat_sign, hw]
      exact hnext
theorem refEnc_f (s : Int) (l : List Int) (hn : l.length ≤ 1000000) : Ev (fun k => gatepostref03_Encode.f k s l) (strOfNums (encS s l)) := by
  have := refEnc_l0 s l hn _ 0 [] rfl (by omega) (by simp)
  simpa [gatepostref03_Encode.f] using this
end Go.Proofs.Ytbdiklhffngjmaa
