/- Plain Lean: the five statements of chapter 03 on plain functions. -/
import Derived.Test.YtbdiklhffngjmaaAll2
namespace Go.Proofs.Ytbdiklhffngjmaa
open Go.RowKit Go.Proofs.Ytbdiklhffngjmaa.Uni Go.Proofs.Ytbdiklhffngjmaa.PPct Go.Proofs.YtbdiklhffngjmaaW.PrintWords
set_option linter.unusedVariables false
set_option linter.unusedSimpArgs false

/-! ### 4. There and back -/
theorem val_hexd (n : Int) (h0 : 0 ≤ n) (h1 : n < 16) : val (hexd n) = n := by
  unfold hexd
  split
  · unfold val; rw [if_pos (by omega)]; omega
  · unfold val; rw [if_neg (by omega), if_pos (by omega)]; omega
theorem decL_sign1 (b : Int) (h : 0 ≤ b ∧ b ≤ 255) (t : List Int) : decL (sign1 b ++ t) = b :: decL t := by
  have h1 := val_hexd (b / 16) (by omega) (by omega)
  have h2 := val_hexd (b % 16) (by omega) (by omega)
  show decL (37 :: hexd (b / 16) :: hexd (b % 16) :: t) = _
  rw [decL_sign _ _ _ (by omega) (by omega), h1, h2]
  congr 1; omega
theorem decL_signs (l : List Int) (h : ∀ b ∈ l, 0 ≤ b ∧ b ≤ 255) (t : List Int) : decL (l.flatMap sign1 ++ t) = l ++ decL t := by
  induction l with
  | nil => rfl
  | cons b l ih => rw [List.flatMap_cons, List.append_assoc, decL_sign1 b (h b (by simp)), ih (fun x hx => h x (by simp [hx]))]; rfl
theorem decL_plains (l : List Int) (h : ∀ b ∈ l, b ≠ 37) (t : List Int) : decL (l ++ t) = l ++ decL t := by
  induction l with
  | nil => rfl
  | cons b l ih => rw [List.cons_append, decL_plain _ _ (h b (by simp)), ih (fun x hx => h x (by simp [hx]))]; rfl
theorem decL_none (l : List Int) (h : ∀ b ∈ l, b ≠ 37) : decL l = l := by
  have := decL_plains l h []
  simpa [decL_nil] using this
theorem enc1_not37 (c : Int) (h : c ≠ 37) : ∀ b ∈ enc1 c, b ≠ 37 := by
  unfold enc1
  by_cases hs : Scalar c
  · rw [if_pos hs]
    unfold Scalar at hs
    repeat' split
    all_goals simp
    all_goals omega
  · rw [if_neg hs]; simp
theorem decL_enc1S (s c : Int) (h : inS s c = true ∨ c ≠ 37) (t : List Int) : decL (enc1S s c ++ t) = enc1 c ++ decL t := by
  unfold enc1S
  split
  · exact decL_signs _ (enc1_range c) t
  · rename_i hn
    exact decL_plains _ (enc1_not37 c (h.resolve_left hn)) t
theorem decL_encS (s : Int) (l : List Int) (h : ∀ c ∈ l, inS s c = true ∨ c ≠ 37) : decL (encS s l) = enc l := by
  induction l with
  | nil => exact decL_nil
  | cons c l ih => rw [encS_cons, enc_cons, decL_enc1S s c (h c (by simp)), ih (fun x hx => h x (by simp [hx]))]
theorem in7_37 : inS 7 37 = true := by decide
theorem decL_enc7 (l : List Int) : decL (encS 7 l) = enc l := decL_encS 7 l (fun c _ => by
  by_cases h : c = 37
  · subst h; exact .inl in7_37
  · exact .inr h)

/-! ### 5. What a set tells -/
theorem digit_out : ∀ K : Fin 6, ∀ x : Fin 128, (x.val = 37 ∨ (48 ≤ x.val ∧ x.val ≤ 57) ∨ (65 ≤ x.val ∧ x.val ≤ 70)) → inS ((K.val : Int) + 1) (x.val : Int) = false := by decide +kernel
theorem out_digit (K x : Int) (k0 : 1 ≤ K) (k1 : K ≤ 6) (h : x = 37 ∨ (48 ≤ x ∧ x ≤ 57) ∨ (65 ≤ x ∧ x ≤ 70)) : inS K x = false := by
  have := digit_out ⟨(K - 1).toNat, by omega⟩ ⟨x.toNat, by omega⟩ (by simp only []; omega)
  simp only [] at this
  rw [show (((K - 1).toNat : Nat) : Int) + 1 = K by omega, show ((x.toNat : Nat) : Int) = x by omega] at this
  exact this
theorem out_ascii (K x : Int) (k0 : 1 ≤ K) (k1 : K ≤ 6) (h : inS K x = false) : 32 ≤ x ∧ x ≤ 126 := by
  have hc : ctl x = false := by
    have h3 : K = 1 ∨ K = 2 ∨ K = 3 ∨ K = 4 ∨ K = 5 ∨ K = 6 := by omega
    rcases h3 with rfl | rfl | rfl | rfl | rfl | rfl
    · exact h
    · rw [inS_2] at h; exact (Bool.or_eq_false_iff.1 h).1
    · rw [inS_3] at h; unfold qryS at h; exact (Bool.or_eq_false_iff.1 h).1
    · rw [inS_4] at h; unfold qryS at h; exact (Bool.or_eq_false_iff.1 (Bool.or_eq_false_iff.1 h).1).1
    · rw [inS_5] at h; unfold pthS qryS at h; exact (Bool.or_eq_false_iff.1 (Bool.or_eq_false_iff.1 h).1).1
    · rw [inS_6] at h; unfold usrS pthS qryS at h; exact (Bool.or_eq_false_iff.1 (Bool.or_eq_false_iff.1 (Bool.or_eq_false_iff.1 h).1).1).1
  unfold ctl at hc
  rw [Bool.or_eq_false_iff] at hc
  have h1 := of_decide_eq_false hc.1
  have h2 := of_decide_eq_false hc.2
  omega
theorem enc1_ascii (x : Int) (h0 : 0 ≤ x) (h1 : x < 128) : enc1 x = [x] := by
  unfold enc1; rw [if_pos (by unfold Scalar; omega), if_pos h1]
theorem safe_all (K : Int) (k0 : 1 ≤ K) (k1 : K ≤ 6) (l : List Int) : ∀ x ∈ encS K l, inS K x = false := by
  intro x hx
  unfold encS at hx
  rw [List.mem_flatMap] at hx
  obtain ⟨c, _, hx⟩ := hx
  unfold enc1S at hx
  cases hc : inS K c
  · rw [if_neg (by rw [hc]; decide)] at hx
    have := out_ascii K c k0 k1 hc
    rw [enc1_ascii c (by omega) (by omega), List.mem_singleton] at hx
    rw [hx]; exact hc
  · rw [if_pos hc, List.mem_flatMap] at hx
    obtain ⟨b, hb, hx⟩ := hx
    have hr := enc1_range c b hb
    have d1 := hexd_range (b / 16) (by omega) (by omega)
    have d2 := hexd_range (b % 16) (by omega) (by omega)
    refine out_digit K x k0 k1 ?_
    unfold sign1 at hx
    simp only [List.mem_cons, List.not_mem_nil, or_false] at hx
    rcases hx with rfl | rfl | rfl
    · exact .inl rfl
    · right; unfold hexd; split <;> omega
    · right; unfold hexd; split <;> omega
theorem enc_ascii (l : List Int) (h : ∀ x ∈ l, 0 ≤ x ∧ x < 128) : enc l = l := by
  induction l with
  | nil => rfl
  | cons c l ih => rw [enc_cons, enc1_ascii c (h c (by simp)).1 (h c (by simp)).2, ih (fun x hx => h x (by simp [hx]))]; rfl
theorem dec_ascii (l : List Int) (h : ∀ x ∈ l, 0 ≤ x ∧ x < 128) : dec l = l := by
  have := dec_enc l (fun c hc => by have := h c hc; unfold Scalar; omega) []
  rw [enc_ascii l h, List.append_nil, dec_nil, List.append_nil] at this
  exact this
theorem safe_ascii (K : Int) (k0 : 1 ≤ K) (k1 : K ≤ 6) (l : List Int) : ∀ x ∈ encS K l, 0 ≤ x ∧ x < 128 := by
  intro x hx
  have := out_ascii K x k0 k1 (safe_all K k0 k1 l x hx)
  omega
theorem encS_out (K : Int) (l : List Int) (h : ∀ x ∈ l, inS K x = false ∧ 0 ≤ x ∧ x < 128) : encS K l = l := by
  induction l with
  | nil => rfl
  | cons c l ih =>
    have hc := h c (by simp)
    rw [encS_cons, ih (fun x hx => h x (by simp [hx]))]
    unfold enc1S
    rw [if_neg (by rw [hc.1]; decide), enc1_ascii c hc.2.1 hc.2.2]; rfl

/-! ### 6. The statements -/
theorem encode_some (s : Int) (l : List Int) (hn : l.length ≤ 1000000) (hI : I32 l) : pct_Encode.f s l = some (strOfNums (encS s l)) := by
  unfold pct_Encode.f; rw [if_pos ⟨hn, hI⟩]
theorem decode_some (s : ByteArray) (hn : s.size ≤ 1000000000) : pct_Decode.f s = some (strOfNums (decL (bytesOf s))) := by
  unfold pct_Decode.f; rw [if_pos hn]
theorem encS_bytes (s : Int) (l : List Int) : bytesOf (strOfNums (encS s l)) = encS s l := bytesOf_strOfNums _ (encS_range s l)
theorem encS_size (s : Int) (l : List Int) : (strOfNums (encS s l)).size ≤ 12 * l.length := by rw [← bytesOf_length, encS_bytes]; exact encS_len s l
theorem decL_bytes (s : ByteArray) : bytesOf (strOfNums (decL (bytesOf s))) = decL (bytesOf s) := bytesOf_strOfNums _ (decL_range _ _ (Nat.le_refl _) (bytesOf_range s))
theorem decL_text : decL [97, 37, 51, 102, 37, 67, 51, 37, 65, 57, 37, 122, 122, 37, 52] = [97, 63, 195, 169, 37, 122, 122, 37, 52] := by
  rw [decL_plain _ _ (by decide), decL_sign _ _ _ (by decide) (by decide), decL_sign _ _ _ (by decide) (by decide), decL_sign _ _ _ (by decide) (by decide), decL_not _ _ _ _ (by decide), decL_plain _ _ (by decide), decL_plain _ _ (by decide), decL_short _ (by decide)]
  decide
theorem awake : gatepostlaw03_awake.f = some true := by
  unfold gatepostlaw03_awake.f
  rw [encode_some 5 _ (by simp) (by intro c hc; simp at hc; omega)]
  simp only [Option.bind_some]
  rw [if_pos (by rw [ByteArray.toList_eq]; decide +kernel), decode_some _ (by decide), show bytesOf (⟨#[97, 37, 51, 102, 37, 67, 51, 37, 65, 57, 37, 122, 122, 37, 52]⟩ : ByteArray) = [97, 37, 51, 102, 37, 67, 51, 37, 65, 57, 37, 122, 122, 37, 52] from rfl, decL_text]
  simp only [Option.bind_some]
  rw [if_pos (by rw [ByteArray.toList_eq]; decide +kernel)]
  rfl
theorem pctIn : gatepostlaw03_PctIn.Pure := by
  intro s c _ _
  suffices h : Ev (fun k => gatepostlaw03_PctIn.f k s c) true by
    obtain ⟨k0, h0⟩ := h
    exact ⟨k0, h0 k0 (Nat.le_refl _)⟩
  unfold gatepostlaw03_PctIn.f pct_In.f
  rw [awake]
  simp only [Option.bind_some, if_true]
  refine Ev.bind (refIn_f s c) ?_
  rw [beq_self_eq_true]
  simp only [if_true]
  refine Ev.bind (refIn_f _ c) ?_
  rw [beq_self_eq_true]
  exact Ev.done true
theorem i32_of_wf {l : List Int} (h : ∀ x ∈ l, (Lit.int .i32 x).wf = true) : I32 l := by
  intro c hc
  have := h c hc
  simp only [Lit.wf, IntKind.min, IntKind.max, IntKind.signed, IntKind.bits, Bool.and_eq_true, decide_eq_true_eq, if_true] at this
  omega
theorem pctEncodes : gatepostlaw03_PctEncodes.Pure := by
  intro s l _ _ _ hwf
  have hI := i32_of_wf hwf
  suffices h : Ev (fun k => gatepostlaw03_PctEncodes.f k s l) true by
    obtain ⟨k0, h0⟩ := h
    exact ⟨k0, h0 k0 (Nat.le_refl _)⟩
  unfold gatepostlaw03_PctEncodes.f
  rw [awake]
  simp only [Option.bind_some, if_true]
  by_cases hn : (l.length : Int) > 100
  · simp only [if_pos hn]; exact Ev.done true
  simp only [if_neg hn]
  rw [encode_some s l (by omega) hI, encode_some _ l (by omega) hI]
  simp only [Option.bind_some]
  refine Ev.bind (refEnc_f s l (by omega)) ?_
  simp only [if_true]
  refine Ev.bind (refEnc_f _ l (by omega)) ?_
  rw [beq_self_eq_true]
  exact Ev.done true
theorem decodes_l0 (s : ByteArray) (hs : s.size ≤ 300) (m : Nat) : ∀ i (b : Bool), s.size - i = m → i ≤ s.size → (b = true → ∀ x ∈ (bytesOf s).take i, x ≠ 37) →
    Ev (fun k => gatepostlaw03_PctDecodes.l0 k s true (strOfNums (decL (bytesOf s))) b (i : Int)) true := by
  induction m with
  | zero =>
    intro i b hm hi hb
    obtain rfl : i = s.size := by omega
    have hsz : ((strOfNums (decL (bytesOf s))).size : Int) ≤ (s.size : Int) := by
      have := decL_len _ (bytesOf s) (Nat.le_refl _)
      rw [bytesOf_length] at this
      have h2 : (strOfNums (decL (bytesOf s))).size = (decL (bytesOf s)).length := by rw [← bytesOf_length, decL_bytes]
      omega
    refine Ev.succ (h := fun k => (gatepostref03_Decode.f k s).bind fun t178 => (if (strOfNums (decL (bytesOf s))).toList = t178.toList then (if ((strOfNums (decL (bytesOf s))).size : Int) ≤ (s.size : Int) then (if b = true then (some ((strOfNums (decL (bytesOf s))).toList == s.toList)) else (some true)) else (some false)) else (some false))) (fun k => ?_) (Ev.bind (refDec_f s (by omega)) ?_)
    · simp only [gatepostlaw03_PctDecodes.l0]; rw [if_neg (by omega), if_pos trivial]
    · simp only [if_true]
      rw [if_pos hsz]
      cases b
      · simpa using Ev.done true
      · have hb' := hb rfl
        rw [List.take_of_length_le (by rw [bytesOf_length]; exact Nat.le_refl _)] at hb'
        rw [if_pos rfl, toList_beq, decL_bytes, decL_none _ hb', decide_eq_true rfl]
        exact Ev.done true
  | succ m ih =>
    intro i b hm hi hb
    have hw := wrap64_id ((i : Int) + 1) (by omega) (by omega)
    have hi1 : i < (bytesOf s).length := by rw [bytesOf_length]; omega
    cases b
    · refine Ev.succ (fun k => ?_) (ih (i + 1) false (by omega) (by omega) (fun h => by cases h))
      simp only [gatepostlaw03_PctDecodes.l0]; rw [if_pos (by omega), if_neg (by decide), hw]; rfl
    · refine Ev.succ (fun k => ?_) (ih (i + 1) (bt s (i : Int) != 37) (by omega) (by omega) (fun h x hx => ?_))
      · simp only [gatepostlaw03_PctDecodes.l0]; rw [if_pos (by omega), if_pos trivial, if_pos (by omega), hw]; rfl
      · rw [List.take_succ_eq_append_getElem hi1] at hx
        rcases List.mem_append.1 hx with hx | hx
        · exact hb rfl x hx
        · rw [List.mem_singleton] at hx
          have : (bytesOf s)[i] = bt s (i : Int) := by
            rw [← rd_bytesOf]; unfold rd
            simp [List.getD_eq_getElem?_getD, List.getElem?_eq_getElem hi1]
          rw [hx, this]
          simpa using h
theorem pctDecodes : gatepostlaw03_PctDecodes.Pure := by
  intro s _
  suffices h : Ev (fun k => gatepostlaw03_PctDecodes.f k s) true by
    obtain ⟨k0, h0⟩ := h
    exact ⟨k0, h0 k0 (Nat.le_refl _)⟩
  unfold gatepostlaw03_PctDecodes.f
  rw [awake]
  simp only [Option.bind_some]
  by_cases hn : (s.size : Int) > 300
  · simp only [if_pos hn]; exact Ev.done true
  simp only [if_neg hn]
  rw [decode_some s (by omega)]
  simp only [Option.bind_some]
  exact decodes_l0 s (by omega) _ 0 true rfl (by omega) (fun _ x hx => by simp at hx)
theorem back_l0 (l : List Int) (hI : I32 l) (hl : l.length ≤ 100) (K : Int) (m : Nat) : ∀ i (b : Bool), l.length - i = m → i ≤ l.length → (b = true → ∀ x ∈ l.take i, x ≠ 37) →
    Ev (fun k => gatepostlaw03_PctBack.l0 k l true K b (i : Int)) true := by
  induction m with
  | zero =>
    intro i b hm hi hb
    obtain rfl : i = l.length := by omega
    have hu : utf_Encode.f l = some (strOfNums (enc l)) := by unfold utf_Encode.f; rw [if_pos ⟨by omega, hI⟩]
    have h7 := encS_size 7 l
    have hK := encS_size K l
    refine Ev.succ (h := fun k => some true) (fun k => ?_) (Ev.done true)
    simp only [gatepostlaw03_PctBack.l0]
    rw [if_neg (by omega), hu, encode_some 7 l (by omega) hI, encode_some K l (by omega) hI]
    simp only [Option.bind_some, if_true]
    rw [decode_some _ (by omega), decode_some _ (by omega), encS_bytes, encS_bytes, decL_enc7]
    simp only [Option.bind_some, if_true]
    cases b
    · rw [if_neg (by decide)]
    · have hb' := hb rfl
      rw [List.take_of_length_le (Nat.le_refl _)] at hb'
      rw [if_pos rfl, decL_encS K l (fun c hc => .inr (hb' c hc)), beq_self_eq_true]
  | succ m ih =>
    intro i b hm hi hb
    have hw := wrap64_id ((i : Int) + 1) (by omega) (by omega)
    have hi1 : i < l.length := by omega
    cases b
    · refine Ev.succ (fun k => ?_) (ih (i + 1) false (by omega) (by omega) (fun h => by cases h))
      simp only [gatepostlaw03_PctBack.l0]; rw [if_pos (by omega), if_neg (by decide), hw]; rfl
    · refine Ev.succ (fun k => ?_) (ih (i + 1) (rd l (i : Int) != 37) (by omega) (by omega) (fun h x hx => ?_))
      · simp only [gatepostlaw03_PctBack.l0]; rw [if_pos (by omega), if_pos trivial, if_pos (by omega), hw]; rfl
      · rw [List.take_succ_eq_append_getElem hi1] at hx
        rcases List.mem_append.1 hx with hx | hx
        · exact hb rfl x hx
        · rw [List.mem_singleton] at hx
          have : l[i] = rd l (i : Int) := by
            unfold rd
            simp [List.getD_eq_getElem?_getD, List.getElem?_eq_getElem hi1]
          rw [hx, this]
          simpa using h
theorem pctBack : gatepostlaw03_PctBack.Pure := by
  intro s l _ _ _ hwf
  have hI := i32_of_wf hwf
  suffices h : Ev (fun k => gatepostlaw03_PctBack.f k s l) true by
    obtain ⟨k0, h0⟩ := h
    exact ⟨k0, h0 k0 (Nat.le_refl _)⟩
  unfold gatepostlaw03_PctBack.f
  rw [awake]
  simp only [Option.bind_some]
  by_cases hn : (l.length : Int) > 100
  · simp only [if_pos hn]; exact Ev.done true
  simp only [if_neg hn]
  exact back_l0 l hI (by omega) _ _ 0 true rfl (by omega) (fun _ x hx => by simp at hx)
theorem set_range (s : Int) : 1 ≤ wrap64 (1 + wrap64 (Int.tmod (IntKind.u64.wrap s) 6)) ∧ wrap64 (1 + wrap64 (Int.tmod (IntKind.u64.wrap s) 6)) ≤ 6 := by
  have h0 : 0 ≤ IntKind.u64.wrap s := by
    simp only [IntKind.wrap, IntKind.bits, IntKind.signed]
    simp
    omega
  have h1 := Int.tmod_eq_emod_of_nonneg (b := 6) h0
  generalize IntKind.u64.wrap s = u at *
  have h2 : 0 ≤ Int.tmod u 6 ∧ Int.tmod u 6 < 6 := by omega
  generalize Int.tmod u 6 = v at *
  rw [wrap64_id v (by omega) (by omega), wrap64_id _ (by omega) (by omega)]
  omega
theorem safe_l0 (l : List Int) (hI : I32 l) (hl : l.length ≤ 100) (K : Int) (k0 : 1 ≤ K) (k1 : K ≤ 6) (m : Nat) : ∀ i, (encS K l).length - i = m → i ≤ (encS K l).length →
    Ev (fun k => gatepostlaw03_PctSafe.l0 k l true K (encS K l) (i : Int)) true := by
  have hlen := encS_len K l
  have hs := safe_all K k0 k1 l
  have ha := safe_ascii K k0 k1 l
  induction m with
  | zero =>
    intro i hm hi
    obtain rfl : i = (encS K l).length := by omega
    have hI2 : I32 (encS K l) := fun c hc => by have := ha c hc; omega
    refine Ev.succ (h := fun k => some true) (fun k => ?_) (Ev.done true)
    simp only [gatepostlaw03_PctSafe.l0]
    rw [if_neg (by omega), if_pos trivial, encode_some K (encS K l) (by omega) hI2, encode_some K l (by omega) hI, encS_out K (encS K l) (fun x hx => ⟨hs x hx, ha x hx⟩)]
    simp only [Option.bind_some]
    rw [beq_self_eq_true]
  | succ m ih =>
    intro i hm hi
    have hw := wrap64_id ((i : Int) + 1) (by omega) (by omega)
    have hin := hs _ (rd_mem (encS K l) (i : Int) (by omega) (by omega))
    have hr := refIn_f K (rd (encS K l) (i : Int))
    rw [hin] at hr
    refine Ev.succ (h := fun k => (gatepostref03_In.f k K (rd (encS K l) (i : Int))).bind fun t210 => (if t210 = true then (some false) else (gatepostlaw03_PctSafe.l0 k l true K (encS K l) (wrap64 ((i : Int) + 1))))) (fun k => ?_) (Ev.bind hr (Ev.of (fun k => ?_) (ih (i + 1) (by omega) (by omega))))
    · simp only [gatepostlaw03_PctSafe.l0]; rw [if_pos (by omega), if_pos (by omega)]
    · rw [if_neg (by decide), hw]; rfl
theorem pctSafe : gatepostlaw03_PctSafe.Pure := by
  intro s l _ _ _ hwf
  have hI := i32_of_wf hwf
  suffices h : Ev (fun k => gatepostlaw03_PctSafe.f k s l) true by
    obtain ⟨k0, h0⟩ := h
    exact ⟨k0, h0 k0 (Nat.le_refl _)⟩
  unfold gatepostlaw03_PctSafe.f
  rw [awake]
  simp only [Option.bind_some]
  by_cases hn : (l.length : Int) > 100
  · simp only [if_pos hn]; exact Ev.done true
  simp only [if_neg hn]
  have hk := set_range s
  generalize wrap64 (1 + wrap64 (Int.tmod (IntKind.u64.wrap s) 6)) = K at *
  rw [encode_some K l (by omega) hI]
  simp only [Option.bind_some]
  have hsz := encS_size K l
  have hd : Ev (fun k => gatepostref02_Decode.f k (strOfNums (encS K l))) (encS K l) := by
    refine ⟨2000, fun k hkk => ?_⟩
    show gatepostref02_Decode.f k _ = _
    rw [refDecode _ (by omega) k (by omega), encS_bytes, dec_ascii _ (safe_ascii K hk.1 hk.2 l)]
  refine Ev.bind hd ?_
  exact safe_l0 l hI (by omega) K hk.1 hk.2 _ 0 rfl (by omega)
end Go.Proofs.Ytbdiklhffngjmaa
