/- The contract of pct.Decode: it answers what 'decL' says; nothing that lay before is changed. -/
import Derived.Test.YtbdiklhffngjmaaEnc
namespace Go.Proofs.Ytbdiklhffngjmaa
open Go.RowKit Go.Proofs.Ytbdiklhffngjmaa.Uni Go.Proofs.YtbdiklhffngjmaaW.PrintWords Go.Proofs.YtbdiklhffngjmaaW.PrintLast Go.Proofs.YtbdiklhffngjmaaW.PrintMore
set_option linter.unusedVariables false
set_option linter.unusedSimpArgs false

/-- The bytes of a text with percent signs. -/
def decL : List Int → List Int
  | a :: b :: c :: t => if a = 37 ∧ 0 ≤ val b ∧ 0 ≤ val c then (val b * 16 + val c) :: decL t else a :: decL (b :: c :: t)
  | l => l
termination_by l => l.length
decreasing_by all_goals (simp only [List.length_cons]; omega)
theorem decL_nil : decL [] = [] := by rw [decL]; simp
theorem decL_sign (b c : Int) (t : List Int) (hb : 0 ≤ val b) (hc : 0 ≤ val c) : decL (37 :: b :: c :: t) = (val b * 16 + val c) :: decL t := by
  rw [decL, if_pos ⟨rfl, hb, hc⟩]
theorem decL_not (a b c : Int) (t : List Int) (h : ¬ (a = 37 ∧ 0 ≤ val b ∧ 0 ≤ val c)) : decL (a :: b :: c :: t) = a :: decL (b :: c :: t) := by
  rw [decL, if_neg h]
theorem decL_plain (a : Int) (t : List Int) (h : a ≠ 37) : decL (a :: t) = a :: decL t := by
  match t with
  | [] => rw [decL, decL_nil]; simp
  | [b] => simp [decL]
  | b :: c :: t => exact decL_not a b c t (fun e => h e.1)
theorem decL_short (L : List Int) (h : L.length ≤ 2) : decL L = L := by
  match L, h with
  | [], _ => exact decL_nil
  | [a], _ => simp [decL]
  | [a, b], _ => simp [decL]
theorem decL_at (B : List Int) (i : Nat) (hi : i < B.length) :
    decL (B.drop i) = if rd B (i : Int) = 37 ∧ i + 2 < B.length ∧ 0 ≤ val (rd B ((i : Int) + 1)) ∧ 0 ≤ val (rd B ((i : Int) + 2)) then (val (rd B ((i : Int) + 1)) * 16 + val (rd B ((i : Int) + 2))) :: decL (B.drop (i + 3)) else rd B (i : Int) :: decL (B.drop (i + 1)) := by
  have h0 := drop_rd B (i : Int) (by omega) (by omega)
  rw [Int.toNat_natCast, show ((i : Int) + 1).toNat = i + 1 by omega] at h0
  by_cases h2 : i + 2 < B.length
  · have h1 := drop_rd B ((i : Int) + 1) (by omega) (by omega)
    rw [show ((i : Int) + 1).toNat = i + 1 by omega, show ((i : Int) + 1 + 1).toNat = i + 2 by omega] at h1
    have h3 := drop_rd B ((i : Int) + 2) (by omega) (by omega)
    rw [show ((i : Int) + 2).toNat = i + 2 by omega, show ((i : Int) + 2 + 1).toNat = i + 3 by omega] at h3
    split
    · rename_i hc
      rw [h0, h1, h3, hc.1]
      exact decL_sign _ _ _ hc.2.2.1 hc.2.2.2
    · rename_i hc
      rw [h0, h1, h3]
      exact decL_not _ _ _ _ (fun e => hc ⟨e.1, h2, e.2.1, e.2.2⟩)
  · rw [if_neg (fun e => h2 e.2.1), decL_short _ (by rw [List.length_drop]; omega), decL_short _ (by rw [List.length_drop]; omega), h0]
theorem val_range (c : Int) : -1 ≤ val c ∧ val c ≤ 15 := by
  unfold val
  repeat' split
  all_goals omega
theorem decL_len (n : Nat) : ∀ L : List Int, L.length ≤ n → (decL L).length ≤ L.length := by
  induction n with
  | zero => intro L h; rw [decL_short L (by omega)]; exact Nat.le_refl _
  | succ n ih =>
    intro L h
    match L, h with
    | [], _ => rw [decL_nil]; exact Nat.le_refl _
    | a :: t, h =>
      by_cases ha : a = 37
      · match t, h with
        | [], _ => rw [decL_short _ (by simp)]; exact Nat.le_refl _
        | [b], _ => rw [decL_short _ (by simp)]; exact Nat.le_refl _
        | b :: c :: t, h =>
          by_cases hv : a = 37 ∧ 0 ≤ val b ∧ 0 ≤ val c
          · rw [ha, decL_sign b c t hv.2.1 hv.2.2]
            have := ih t (by simp at h; omega)
            simp only [List.length_cons]; omega
          · rw [decL_not a b c t hv]
            have := ih (b :: c :: t) (by simp at h ⊢; omega)
            simp only [List.length_cons] at this ⊢; omega
      · rw [decL_plain a t ha]
        have := ih t (by simp at h; omega)
        simp only [List.length_cons]; omega
theorem decL_range (n : Nat) : ∀ L : List Int, L.length ≤ n → (∀ x ∈ L, 0 ≤ x ∧ x ≤ 255) → ∀ x ∈ decL L, 0 ≤ x ∧ x ≤ 255 := by
  induction n with
  | zero => intro L h hr; rw [decL_short L (by omega)]; exact hr
  | succ n ih =>
    intro L h hr
    match L, h with
    | [], _ => rw [decL_nil]; simp
    | a :: t, h =>
      by_cases ha : a = 37
      · match t, h with
        | [], _ => rw [decL_short _ (by simp)]; exact hr
        | [b], _ => rw [decL_short _ (by simp)]; exact hr
        | b :: c :: t, h =>
          by_cases hv : a = 37 ∧ 0 ≤ val b ∧ 0 ≤ val c
          · rw [ha, decL_sign b c t hv.2.1 hv.2.2]
            have h1 := val_range b
            have h2 := val_range c
            intro x hx
            rcases List.mem_cons.1 hx with rfl | hx
            · omega
            · exact ih t (by simp at h; omega) (fun y hy => hr y (by simp [hy])) x hx
          · rw [decL_not a b c t hv]
            intro x hx
            rcases List.mem_cons.1 hx with rfl | hx
            · exact hr _ (by simp)
            · exact ih (b :: c :: t) (by simp at h ⊢; omega) (fun y hy => hr y (List.mem_cons_of_mem _ hy)) x hx
      · rw [decL_plain a t ha]
        intro x hx
        rcases List.mem_cons.1 hx with rfl | hx
        · exact hr _ (by simp)
        · exact ih t (by simp at h; omega) (fun y hy => hr y (List.mem_cons_of_mem _ hy)) x hx
theorem bt_nat (s : ByteArray) (n : Nat) (h : n < s.size) : ((s[n]'h).toNat : Int) = bt s (n : Int) := by simpa using bt_at s (n : Int) (by simpa using h)
theorem wrap64_id' (x : Int) (h0 : -9223372036854775808 ≤ x) (h1 : x ≤ 9223372036854775807) : wrap64 x = x := by unfold wrap64; omega
theorem or_sixteen (a b : Int) (a0 : 0 ≤ a) (a1 : a ≤ 15) (b0 : 0 ≤ b) (b1 : b ≤ 15) : Go.bits .or .i64 (a * 16) b = a * 16 + b := by
  have h : ∀ x y : Fin 16, Go.bits .or .i64 ((x.val : Int) * 16) (y.val : Int) = (x.val : Int) * 16 + (y.val : Int) := by decide
  have := h ⟨a.toNat, by omega⟩ ⟨b.toNat, by omega⟩
  simpa [Int.toNat_of_nonneg a0, Int.toNat_of_nonneg b0] using this
def pct_Decode.f (a0 : ByteArray) : Option ByteArray := if a0.size ≤ 1000000000 then some (strOfNums (decL (bytesOf a0))) else none
theorem value_calls (c : Int) (h0 : 0 ≤ c) (h1 : c ≤ 255) (w : World) : Calls Try.prog 25 #[.int .u8 c] w fun e w' => e = .returned (.int .i64 (val c)) ∧ Below w.heap.size w w' :=
  PPre.pct_value.calls c (val c) w (value_of c h0 h1)

set_option maxHeartbeats 2000000 in
set_option maxRecDepth 100000 in
theorem decode_walk (s : ByteArray) (w : World) (hn : s.size ≤ 1000000000) :
    Calls Try.prog 13 #[.string s] w fun e w' => e = .returned (.string (strOfNums (decL (bytesOf s)))) ∧ Below w.heap.size w w' := by
  go_enter Try.func13, Try.ntmps13
  go_wp2
  go_loopw [4] (fun v4 wr => ∃ (i : Nat) (acc : List Int), v4 = .int .i64 (i : Int) ∧ i ≤ s.size ∧ acc ++ decL ((bytesOf s).drop i) = decL (bytesOf s) ∧ Lib.IsBuilder 36 5 w.heap.size w.heap.size (cs acc) wr ∧ Below w.heap.size w wr) (fun v _ => s.size - (intOf v).toNat)
  case atStart => exact ⟨0, [], rfl, Nat.zero_le _, rfl, Lib.fresh_isBuilder 36 5 w, (Below.refl _ w).alloc (Nat.le_refl _) _⟩
  case round =>
    obtain ⟨i, acc, rfl, hi, hacc, hb, hbw⟩ := hrel
    have HBu := Aside0.mk hb
    have HBW := Aside0.mk hbw
    clear hb hbw
    by_cases hlt : i < s.size
    · have d1 : decide ((i : Int) < (s.size : Int)) = true := decide_eq_true (by omega)
      have d2 : decide (i < s.size) = true := decide_eq_true hlt
      have q1 : (i < s.size) = True := eq_true hlt
      have hx0 : ∀ h : i < s.size, ((s[i]'h).toNat : Int) = bt s (i : Int) := fun h => bt_nat s i h
      have hx1 : ∀ h : i + 1 < s.size, ((s[i + 1]'h).toNat : Int) = bt s ((i : Int) + 1) := fun h => by rw [bt_nat s (i + 1) h, show (((i + 1 : Nat)) : Int) = (i : Int) + 1 by omega]
      have hx2 : ∀ h : i + 2 < s.size, ((s[i + 2]'h).toNat : Int) = bt s ((i : Int) + 2) := fun h => by rw [bt_nat s (i + 2) h, show (((i + 2 : Nat)) : Int) = (i : Int) + 2 by omega]
      have hd := decL_at (bytesOf s) i (by rw [bytesOf_length]; exact hlt)
      simp only [rd_bytesOf, bytesOf_length] at hd
      obtain ⟨r0, r0'⟩ := bt_range s (i : Int)
      obtain ⟨r1, r1'⟩ := bt_range s ((i : Int) + 1)
      obtain ⟨r2, r2'⟩ := bt_range s ((i : Int) + 2)
      have hal : acc.length ≤ 1000000000 := by
        have := decL_len _ (bytesOf s) (Nat.le_refl _)
        rw [← hacc, List.length_append, bytesOf_length] at this
        omega
      have HD := Aside0.mk hd
      have HAC := Aside0.mk hacc
      clear hd hacc
      generalize bt s (i : Int) = b0 at *
      generalize bt s ((i : Int) + 1) = b1 at *
      generalize bt s ((i : Int) + 2) = b2 at *
      by_cases h37 : b0 = 37
      · subst h37
        by_cases h2 : i + 2 < s.size
        · have q2 : (i + 2 < s.size) = True := eq_true h2
          have q3 : (i + 1 < s.size) = True := eq_true (by omega)
          have e1 : decide ((i : Int) + 2 < (s.size : Int)) = true := decide_eq_true (by omega)
          have w1 : wrap64 ((i : Int) + 1) = (i : Int) + 1 := wrap64_id' _ (by omega) (by omega)
          have w2 : wrap64 ((i : Int) + 2) = (i : Int) + 2 := wrap64_id' _ (by omega) (by omega)
          have n1 : ((i : Int) + 1).toNat = i + 1 := by omega
          have n2 : ((i : Int) + 2).toNat = i + 2 := by omega
          by_cases hv1 : 0 ≤ val b1
          · have v1 : decide (0 ≤ val b1) = true := decide_eq_true hv1
            by_cases hv2 : 0 ≤ val b2
            · have v2 : decide (0 ≤ val b2) = true := decide_eq_true hv2
              obtain ⟨_, x1⟩ := val_range b1
              obtain ⟨_, x2⟩ := val_range b2
              have hor : Go.bits .or .i64 (val b1 * 16) (val b2) = val b1 * 16 + val b2 := or_sixteen _ _ hv1 (by omega) hv2 (by omega)
              have hm : (val b1 * 16 + val b2) % 256 = val b1 * 16 + val b2 := by omega
              go_wp2_with (first | (go_at_call 25; with_reducible refine (value_calls b1 r1 r1' _).mono ?_; rintro e w3 ⟨rfl, hb⟩; have HB3 := Aside0.mk hb; clear hb) | (go_at_call 25; with_reducible refine (value_calls b2 r2 r2' _).mono ?_; rintro e w5 ⟨rfl, hb⟩; have HB5 := Aside0.mk (HB3.out.trans (hb.mono HB3.out.size)); clear hb))
              have hor' : Go.bits .or .i64 (wrap64 (val b1 * 16)) (val b2) = val b1 * 16 + val b2 := by rw [wrap64_id' _ (by omega) (by omega)]; exact hor
              have p1 : (0 ≤ (i : Int) + 1 ∧ (i : Int) + 1 < (s.size : Int)) = True := eq_true (by omega)
              have p2 : (0 ≤ (i : Int) + 2 ∧ (i : Int) + 2 < (s.size : Int)) = True := eq_true (by omega)
              refine start_ (n := 14) (S := fun w' => True) (ds := []) #[false, false, false, false, false, false, false, false, false, false, false, false, false, false] (by kernel_rfl) rfl rfl trivial (fun hHeld => ?_)
              refine pure_ (i := 0) (N := some 38) (v := ?_) (a' := ?_) #[true, false, false, false, false, false, false, false, false, false, false, false, false, false] rfl rfl (by kernel_rfl) (fun _ _ _ h => h) (Or.inl ⟨by rfl, ?_⟩) ?_ ?_
              rotate_left
              · intro w'
                go_simp
                with_reducible rfl
              rotate_left
              · simp only [Act.put, List.setIfInBounds_toArray, List.set_cons_zero, List.set_cons_succ, i64_w, i32_w]
                rfl
              refine pure_ (i := 1) (N := some 39) (v := ?_) (a' := ?_) #[true, true, false, false, false, false, false, false, false, false, false, false, false, false] rfl rfl (by kernel_rfl) (fun _ _ _ h => h) (Or.inl ⟨by rfl, ?_⟩) ?_ ?_
              rotate_left
              · intro w'
                go_simp
                with_reducible rfl
              rotate_left
              · simp only [Act.put, List.setIfInBounds_toArray, List.set_cons_zero, List.set_cons_succ, i64_w, i32_w]
                rfl
              refine pure_ (i := 2) (N := some 40) (v := ?_) (a' := ?_) #[true, true, true, false, false, false, false, false, false, false, false, false, false, false] rfl rfl (by kernel_rfl) (fun _ _ _ h => h) (Or.inl ⟨by rfl, ?_⟩) ?_ ?_
              rotate_left
              · intro w'
                go_simp
                with_reducible rfl
              rotate_left
              · simp only [Act.put, List.setIfInBounds_toArray, List.set_cons_zero, List.set_cons_succ, i64_w, i32_w]
                rfl
              refine pure_ (i := 6) (N := some 44) (v := ?_) (a' := ?_) #[true, true, true, false, false, false, true, false, false, false, false, false, false, false] rfl rfl (by kernel_rfl) (fun _ _ _ h => h) (Or.inl ⟨by rfl, ?_⟩) ?_ ?_
              rotate_left
              · intro w'
                go_simp
                with_reducible rfl
              rotate_left
              · simp only [Act.put, List.setIfInBounds_toArray, List.set_cons_zero, List.set_cons_succ, i64_w, i32_w]
                rfl
              refine pure_ (i := 7) (N := some 45) (v := ?_) (a' := ?_) #[true, true, true, false, false, false, true, true, false, false, false, false, false, false] rfl rfl (by kernel_rfl) (fun _ _ _ h => h) (Or.inl ⟨by rfl, ?_⟩) ?_ ?_
              rotate_left
              · intro w'
                go_simp
                with_reducible rfl
              rotate_left
              · simp only [Act.put, List.setIfInBounds_toArray, List.set_cons_zero, List.set_cons_succ, i64_w, i32_w]
                rfl
              refine pure_ (i := 8) (N := some 46) (v := ?_) (a' := ?_) #[true, true, true, false, false, false, true, true, true, false, false, false, false, false] rfl rfl (by kernel_rfl) (fun _ _ _ h => h) (Or.inl ⟨by rfl, ?_⟩) ?_ ?_
              rotate_left
              · intro w'
                go_simp
                with_reducible rfl
              rotate_left
              · simp only [Act.put, List.setIfInBounds_toArray, List.set_cons_zero, List.set_cons_succ, i64_w, i32_w]
                rfl
              refine take_ (i := 3) (N := some 41) (v := ?_) (a' := ?_) #[true, true, true, true, false, false, true, true, true, false, false, false, false, false] rfl rfl (by kernel_rfl) (fun _ _ _ h => h) (Or.inl ⟨by rfl, ?_⟩) hHeld ?_ ?_
              rotate_left
              · intro w' _
                go_simp
                with_reducible rfl
              rotate_left
              · simp only [Act.put, List.setIfInBounds_toArray, List.set_cons_zero, List.set_cons_succ, i64_w, i32_w]
                rfl
              refine take_ (i := 9) (N := some 47) (v := ?_) (a' := ?_) #[true, true, true, true, false, false, true, true, true, true, false, false, false, false] rfl rfl (by kernel_rfl) (fun _ _ _ h => h) (Or.inl ⟨by rfl, ?_⟩) hHeld ?_ ?_
              rotate_left
              · intro w' _
                go_simp
                with_reducible rfl
              rotate_left
              · simp only [Act.put, List.setIfInBounds_toArray, List.set_cons_zero, List.set_cons_succ, i64_w, i32_w]
                rfl
              refine one_ (i := 4) (N := some 42) #[true, true, true, true, true, false, true, true, true, true, false, false, false, false] rfl rfl (by kernel_rfl) (by decide) (fun K hK => ?_)
              refine goes_ Try.func25 (by kernel_rfl) rfl #[.int .u8 b1] (by rfl) rfl rfl (by simp only [List.map_toArray, List.map_cons, List.map_nil]; rfl) ?_
              with_reducible refine (value_calls b1 r1 r1' _).mono ?_
              rintro e w6 ⟨rfl, hb⟩
              refine ⟨_, rfl, ?_⟩
              have HB6 := Aside0.mk (HB5.out.drew.trans (hb.mono HB5.out.size))
              clear hb
              refine hK.out _ _ trivial (fun hHeld => ?_)
              clear hK K
              refine norm_ (a' := ?_) ?_ ?_
              rotate_left
              · show Act.put _ (some 42) _ = _
                simp only [Act.put, List.setIfInBounds_toArray, List.set_cons_zero, List.set_cons_succ, i64_w, i32_w]
                rfl
              refine pure_ (i := 5) (N := some 43) (v := ?_) (a' := ?_) #[true, true, true, true, true, true, true, true, true, true, false, false, false, false] rfl rfl (by kernel_rfl) (fun _ _ _ h => h) (Or.inl ⟨by rfl, ?_⟩) ?_ ?_
              rotate_left
              · intro w'
                go_simp
                with_reducible rfl
              rotate_left
              · simp only [Act.put, List.setIfInBounds_toArray, List.set_cons_zero, List.set_cons_succ, i64_w, i32_w]
                rfl
              refine one_ (i := 10) (N := some 48) #[true, true, true, true, true, true, true, true, true, true, true, false, false, false] rfl rfl (by kernel_rfl) (by decide) (fun K hK => ?_)
              refine goes_ Try.func25 (by kernel_rfl) rfl #[.int .u8 b2] (by rfl) rfl rfl (by simp only [List.map_toArray, List.map_cons, List.map_nil]; rfl) ?_
              with_reducible refine (value_calls b2 r2 r2' _).mono ?_
              rintro e w7 ⟨rfl, hb⟩
              refine ⟨_, rfl, ?_⟩
              have HB7 := Aside0.mk (HB6.out.trans (hb.mono HB6.out.size))
              clear hb
              refine hK.out _ _ trivial (fun hHeld => ?_)
              clear hK K
              refine norm_ (a' := ?_) ?_ ?_
              rotate_left
              · show Act.put _ (some 48) _ = _
                simp only [Act.put, List.setIfInBounds_toArray, List.set_cons_zero, List.set_cons_succ, i64_w, i32_w]
                rfl
              refine pure_ (i := 11) (N := some 49) (v := ?_) (a' := ?_) #[true, true, true, true, true, true, true, true, true, true, true, true, false, false] rfl rfl (by kernel_rfl) (fun _ _ _ h => h) (Or.inl ⟨by rfl, ?_⟩) ?_ ?_
              rotate_left
              · intro w'
                go_simp
                with_reducible rfl
              rotate_left
              · simp only [Act.put, List.setIfInBounds_toArray, List.set_cons_zero, List.set_cons_succ, i64_w, i32_w]
                rfl
              refine pure_ (i := 12) (N := some 50) (v := ?_) (a' := ?_) #[true, true, true, true, true, true, true, true, true, true, true, true, true, false] rfl rfl (by kernel_rfl) (fun _ _ _ h => h) (Or.inl ⟨by rfl, ?_⟩) ?_ ?_
              rotate_left
              · intro w'
                go_simp
                with_reducible rfl
              rotate_left
              · simp only [Act.put, List.setIfInBounds_toArray, List.set_cons_zero, List.set_cons_succ, i64_w, i32_w]
                rfl
              refine one_ (i := 13) (N := some 51) #[true, true, true, true, true, true, true, true, true, true, true, true, true, true] rfl rfl (by kernel_rfl) (by decide) (fun K hK => ?_)
              refine goes_ Try.func20 (by kernel_rfl) rfl #[.pointer (some ⟨w.heap.size, 0, none⟩), .int .u8 _] (by rfl) rfl rfl (by simp only [List.map_toArray, List.map_cons, List.map_nil]; rfl) ?_
              with_reducible refine (bd_byteIn w.heap.size w.heap.size _ _ _ (bd_below HBu.out HB7.out) (by rw [cs_length]; omega) (Nat.le_trans HBW.out.size HB7.out.size)).mono ?_
              rintro e w8 ⟨rfl, h3, hb⟩
              refine ⟨_, rfl, ?_⟩
              have H8 := Aside0.mk h3
              have HB8 := Aside0.mk hb
              clear h3 hb
              refine hK.out _ _ trivial (fun hHeld => ?_)
              clear hK K
              refine norm_ (a' := ?_) ?_ ?_
              rotate_left
              · show Act.put _ (some 51) _ = _
                simp only [Act.put, List.setIfInBounds_toArray, List.set_cons_zero, List.set_cons_succ, i64_w, i32_w]
                rfl
              refine done_ (by kernel_rfl) ?_
              go_wp2
              have hu : IntKind.u8.wrap (val b1 * 16 + val b2) = val b1 * 16 + val b2 := by
                simp only [IntKind.wrap, IntKind.bits, IntKind.signed]
                simp
                omega
              refine ⟨⟨i + 3, acc ++ [val b1 * 16 + val b2], by simp; omega, by omega, ?_, ?_, (HBW.out.trans (HB7.out.mono HBW.out.size)).trans HB8.out⟩, by simp [intOf]; omega⟩
              · have hd := HD.out
                rw [if_pos ⟨trivial, h2, hv1, hv2⟩] at hd
                rw [← HAC.out, hd]
                simp
              · have h8 := H8.out
                rw [hu] at h8
                rw [cs_append]; exact Or.inr h8
            · have v2 : decide (0 ≤ val b2) = false := decide_eq_false hv2
              go_wp2_with (first | (go_at_call 25; with_reducible refine (value_calls b1 r1 r1' _).mono ?_; rintro e w3 ⟨rfl, hb⟩; have HB3 := Aside0.mk hb; clear hb) | (go_at_call 25; with_reducible refine (value_calls b2 r2 r2' _).mono ?_; rintro e w5 ⟨rfl, hb⟩; have HB5 := Aside0.mk (HB3.out.trans (hb.mono HB3.out.size)); clear hb) | (go_at_call 20; refine (bd_byteIn w.heap.size w.heap.size _ _ _ (bd_below HBu.out HB5.out) (by rw [cs_length]; omega) (Nat.le_trans HBW.out.size (Below.size HB5.out))).mono ?_; rintro e w4 ⟨rfl, h3, hb⟩; have H4 := Aside0.mk h3; have HB4 := Aside0.mk hb; clear h3 hb))
              refine ⟨⟨i + 1, acc ++ [37], by simp, by omega, ?_, ?_, (HBW.out.trans (HB5.out.mono HBW.out.size)).trans HB4.out⟩, by simp [intOf]; omega⟩
              · have hd := HD.out
                rw [if_neg (by rintro ⟨_, g2, g3, g4⟩; omega)] at hd
                rw [← HAC.out, hd]
                simp
              · rw [cs_append]; exact Or.inr H4.out
          · have v1 : decide (0 ≤ val b1) = false := decide_eq_false hv1
            go_wp2_with (first | (go_at_call 25; with_reducible refine (value_calls b1 r1 r1' _).mono ?_; rintro e w3 ⟨rfl, hb⟩; have HB3 := Aside0.mk hb; clear hb) | (go_at_call 20; refine (bd_byteIn w.heap.size w.heap.size _ _ _ (bd_below HBu.out HB3.out) (by rw [cs_length]; omega) (Nat.le_trans HBW.out.size (Below.size HB3.out))).mono ?_; rintro e w4 ⟨rfl, h3, hb⟩; have H4 := Aside0.mk h3; have HB4 := Aside0.mk hb; clear h3 hb))
            refine ⟨⟨i + 1, acc ++ [37], by simp, by omega, ?_, ?_, (HBW.out.trans (HB3.out.mono HBW.out.size)).trans HB4.out⟩, by simp [intOf]; omega⟩
            · have hd := HD.out
              rw [if_neg (by rintro ⟨_, g2, g3, g4⟩; omega)] at hd
              rw [← HAC.out, hd]
              simp
            · rw [cs_append]; exact Or.inr H4.out
        · have e1 : decide ((i : Int) + 2 < (s.size : Int)) = false := decide_eq_false (by omega)
          have w2 : wrap64 ((i : Int) + 2) = (i : Int) + 2 := wrap64_id' _ (by omega) (by omega)
          go_wp2_with (first | (go_at_call 20; refine (bd_byteIn w.heap.size w.heap.size _ _ _ HBu.out (by rw [cs_length]; omega) HBW.out.size).mono ?_; rintro e w4 ⟨rfl, h3, hb⟩; have H4 := Aside0.mk h3; have HB4 := Aside0.mk hb; clear h3 hb))
          refine ⟨⟨i + 1, acc ++ [37], by simp, by omega, ?_, ?_, HBW.out.trans HB4.out⟩, by simp [intOf]; omega⟩
          · have hd := HD.out
            rw [if_neg (by rintro ⟨_, g2, g3, g4⟩; omega)] at hd
            rw [← HAC.out, hd]
            simp
          · rw [cs_append]; exact Or.inr H4.out
      · have c1 : decide (b0 = 37) = false := decide_eq_false h37
        have c2 : (b0 == 37) = false := by simp [h37]
        go_wp2_with (first | (go_at_call 20; refine (bd_byteIn w.heap.size w.heap.size _ _ _ HBu.out (by rw [cs_length]; omega) HBW.out.size).mono ?_; rintro e w4 ⟨rfl, h3, hb⟩; have H4 := Aside0.mk h3; have HB4 := Aside0.mk hb; clear h3 hb))
        refine ⟨⟨i + 1, acc ++ [b0], by simp, by omega, ?_, ?_, HBW.out.trans HB4.out⟩, by simp [intOf]; omega⟩
        · have hd := HD.out
          rw [if_neg (by rintro ⟨_, g2, g3, g4⟩; omega)] at hd
          rw [← HAC.out, hd]
          simp
        · rw [cs_append]; exact Or.inr H4.out
    · have d1 : decide ((i : Int) < (s.size : Int)) = false := decide_eq_false (by omega)
      have d2 : decide (i < s.size) = false := decide_eq_false hlt
      have hdr : (bytesOf s).drop i = [] := List.drop_eq_nil_of_le (by rw [bytesOf_length]; omega)
      rw [hdr, decL_nil, List.append_nil] at hacc
      have hb : Lib.IsBuilder 36 5 w.heap.size w.heap.size (Lib.byteCells (strOfNums (decL (bytesOf s))).data.toList) wr := by rw [cs_bytes _ (decL_range _ _ (Nat.le_refl _) (bytesOf_range s)), ← hacc]; exact HBu.out
      have HBu' := Aside0.mk hb
      clear hb hdr hacc HBu
      go_wp2_with (go_at_call 22; refine (Try.Builder_String_any w.heap.size w.heap.size _ _ HBu'.out HBW.out.size).mono ?_; rintro e w1 ⟨rfl, hb⟩; have HB1 := Aside0.mk hb; clear hb)
      go_ret
      exact ⟨rfl, HBW.out.trans HB1.out⟩
theorem pct_Decode.calls (a0 : ByteArray) (r : ByteArray) (w : World) (h : pct_Decode.f a0 = some r) :
    Calls Try.prog 13 #[.string a0] w fun e w' => e = .returned (.string r) ∧ Below w.heap.size w w' := by
  unfold pct_Decode.f at h
  split at h
  · rename_i hh
    obtain rfl := Option.some.inj h
    exact decode_walk a0 w hh
  · cases h
end Go.Proofs.Ytbdiklhffngjmaa
