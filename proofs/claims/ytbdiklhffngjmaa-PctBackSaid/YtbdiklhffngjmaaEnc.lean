/- The contract of pct.Encode: it answers what 'encS' says; nothing that lay before is changed. -/
import Derived.Test.YtbdiklhffngjmaaSet
namespace Go.Proofs.Ytbdiklhffngjmaa
open Go.RowKit Go.Proofs.Ytbdiklhffngjmaa.Uni Go.Proofs.YtbdiklhffngjmaaW.PrintWords Go.Proofs.YtbdiklhffngjmaaW.PrintLast Go.Proofs.YtbdiklhffngjmaaW.PrintMore
set_option linter.unusedVariables false
set_option linter.unusedSimpArgs false

/-- A byte by a percent sign. -/
def sign1 (b : Int) : List Int := [37, hexd (b / 16), hexd (b % 16)]
def enc1S (s c : Int) : List Int := if inS s c then (enc1 c).flatMap sign1 else enc1 c
def encS (s : Int) (l : List Int) : List Int := l.flatMap (enc1S s)
def cs (xs : List Int) : List Value := xs.map (Value.int .u8 ·)
theorem cs_append (a b : List Int) : cs (a ++ b) = cs a ++ cs b := by simp [cs]
theorem cs_length (a : List Int) : (cs a).length = a.length := by simp [cs]
theorem cs_bytes (l : List Int) (h : ∀ x ∈ l, 0 ≤ x ∧ x ≤ 255) : Lib.byteCells (strOfNums l).data.toList = cs l := by
  have := bytesOf_strOfNums l h
  unfold bytesOf at this
  unfold Lib.byteCells cs
  conv => rhs; rw [← this]
  rw [List.map_map]
  rfl
theorem str_cells (s : ByteArray) : Lib.strCells s = cs (bytesOf s) := by
  unfold Lib.strCells cs bytesOf
  simp
theorem bd_below {B b : Nat} {bs : List Value} {w w1 : World} (h : Lib.IsBuilder 36 5 B b bs w) (hb : Below w.heap.size w w1) : Lib.IsBuilder 36 5 B b bs w1 := by
  have key : ∀ p, Lib.BuilderAt 36 5 B b p bs w → Lib.BuilderAt 36 5 B b p bs w1 := by
    rintro p h'
    have hlt := h'.lt
    obtain ⟨hB, v, hbk, hown, hne⟩ := h'
    exact ⟨hB, v, (hb.block b hlt).trans hbk, pw_own_below hown hb, hne⟩
  exact h.imp (key _) (key _)
theorem hexd_range (n : Int) (h0 : 0 ≤ n) (h1 : n < 16) : 48 ≤ hexd n ∧ hexd n ≤ 70 := by
  unfold hexd; split <;> omega
theorem sign1_range (b : Int) (h : 0 ≤ b ∧ b ≤ 255) : ∀ x ∈ sign1 b, 0 ≤ x ∧ x ≤ 127 := by
  have h1 := hexd_range (b / 16) (by omega) (by omega)
  have h2 := hexd_range (b % 16) (by omega) (by omega)
  unfold sign1
  simp
  omega
theorem enc1S_len (s c : Int) : (enc1S s c).length ≤ 12 := by
  have h := (enc1_len c).2
  unfold enc1S
  split
  · rw [List.length_flatMap]
    have : ∀ l : List Int, (l.map fun b => (sign1 b).length).sum = 3 * l.length := by
      intro l
      induction l with
      | nil => rfl
      | cons x l ih => rw [List.map_cons, List.sum_cons, ih, List.length_cons]; simp [sign1]; omega
    rw [this]; omega
  · omega
theorem encS_cons (s c : Int) (l : List Int) : encS s (c :: l) = enc1S s c ++ encS s l := by simp [encS]
theorem encS_append (s : Int) (a b : List Int) : encS s (a ++ b) = encS s a ++ encS s b := by simp [encS]
theorem encS_len (s : Int) (l : List Int) : (encS s l).length ≤ 12 * l.length := by
  induction l with
  | nil => simp [encS]
  | cons c l ih => rw [encS_cons, List.length_append, List.length_cons]; have := enc1S_len s c; omega
theorem enc1S_range (s c : Int) : ∀ x ∈ enc1S s c, 0 ≤ x ∧ x ≤ 255 := by
  unfold enc1S
  split
  · intro x hx
    rw [List.mem_flatMap] at hx
    obtain ⟨b, hb, hx⟩ := hx
    have := sign1_range b (enc1_range c b hb) x hx
    omega
  · exact enc1_range c
theorem encS_range (s : Int) (l : List Int) : ∀ x ∈ encS s l, 0 ≤ x ∧ x ≤ 255 := by
  intro x hx
  unfold encS at hx
  rw [List.mem_flatMap] at hx
  obtain ⟨c, _, hx⟩ := hx
  exact enc1S_range s c x hx
theorem one_C (w : World) (c : Int) : (Kd.int .i32).C (w.alloc (.cells #[.int .i32 c] 21)) (some ⟨w.heap.size, 0, none⟩) [c].length [c] := by
  refine ⟨rfl, by simp [maxLen], fun _ => ⟨_, rfl, fun j p hj => ?_⟩⟩
  obtain ⟨hj1, rfl⟩ := List.getElem?_eq_some_iff.1 hj
  have hj0 : j = 0 := by simp at hj1; exact hj1
  subst hj0
  refine ⟨[.int .i32 c], rfl, rfl, fun u v hu => ?_⟩
  have hu0 : u = 0 := by
    have := (List.getElem?_eq_some_iff.1 hu).1
    simp at this
    exact this
  subst hu0
  simp at hu
  subst hu
  exact World.cell?_alloc_new w _ _ 0
def pct_Encode.f (a0 : Int) (l1 : List Int) : Option ByteArray := if l1.length ≤ 1000000 ∧ I32 l1 then some (strOfNums (encS a0 l1)) else none

set_option maxHeartbeats 2000000 in
set_option maxRecDepth 100000 in
theorem encode_walk (a0 : Int) (A1 : Option Addr) (c1 : Nat) (l1 : List Int) (w : World) (hr1 : Kd.C (Kd.int .i32) w A1 l1.length l1) (hc1 : l1.length ≤ c1) (hn : l1.length ≤ 1000000) (hI : I32 l1) :
    Calls Try.prog 11 #[.int .i64 a0, .slice A1 l1.length c1] w fun e w' => e = .returned (.string (strOfNums (encS a0 l1))) ∧ Below w.heap.size w w' := by
  have HR1 := Aside0.mk hr1
  have HI := Aside0.mk hI
  clear hr1 hI
  go_enter Try.func11, Try.ntmps11
  go_wp2
  go_loopw [14] (fun v14 wr => ∃ (i : Nat), v14 = .int .i64 (i : Int) ∧ i ≤ l1.length ∧ Lib.IsBuilder 36 5 w.heap.size w.heap.size (cs (encS a0 (l1.take i))) wr ∧ Below w.heap.size w wr) (fun v _ => l1.length - (intOf v).toNat)
  case atStart => exact ⟨0, rfl, Nat.zero_le _, Lib.fresh_isBuilder 36 5 w, (Below.refl _ w).alloc (Nat.le_refl _) _⟩
  case round =>
    obtain ⟨i, rfl, hi, hb, hbw⟩ := hrel
    have HBu := Aside0.mk hb
    have HBW := Aside0.mk hbw
    clear hb hbw
    by_cases hlt : i < l1.length
    · have d1 : decide ((i : Int) < (l1.length : Int)) = true := decide_eq_true (by omega)
      have d2 : decide (i < l1.length) = true := decide_eq_true hlt
      have q1 : ((i : Int) < (l1.length : Int)) = True := eq_true (by omega)
      obtain ⟨aP, eP, hpv⟩ := Kd.at_int HR1.out (i : Int) (by omega) (by omega)
      cases eP
      have hpv' := pw_cell_below HBW.out hpv
      rw [Int.toNat_natCast] at hpv'
      have hcI := HI.out _ (rd_mem l1 (i : Int) (by omega) (by omega))
      have htk : l1.take (i + 1) = l1.take i ++ [rd l1 (i : Int)] := by
        rw [List.take_succ_eq_append_getElem hlt]
        unfold rd
        simp [List.getD_eq_getElem?_getD, List.getElem?_eq_getElem hlt]
      have HTK := Aside0.mk htk
      clear htk hpv
      generalize rd l1 (i : Int) = c at *
      have hs : utf_Encode.f [c] = some (strOfNums (enc [c])) := by
        unfold utf_Encode.f
        rw [if_pos ⟨by simp, by intro x hx; rw [List.mem_singleton] at hx; subst hx; exact hcI⟩]
      have hbs : bytesOf (strOfNums (enc [c])) = enc1 c := by rw [bytesOf_strOfNums _ (enc_range _)]; simp [enc]
      generalize strOfNums (enc [c]) = s at *
      have hsz : s.size = (enc1 c).length := by rw [← hbs, bytesOf_length]
      have hs4 := (enc1_len c).2
      have HS := Aside0.mk hs
      have HBS := Aside0.mk hbs
      clear hs hbs
      have hle := encS_len a0 (l1.take i)
      have hle2 : (l1.take i).length ≤ 1000000 := by rw [List.length_take]; omega
      have hstep : encS a0 (l1.take (i + 1)) = encS a0 (l1.take i) ++ enc1S a0 c := by rw [HTK.out, encS_append, encS_cons]; simp [encS]
      have HST := Aside0.mk hstep
      clear hstep HTK
      cases hin : inS a0 c
      · have HIN := Aside0.mk hin
        clear hin
        go_wp2_with (first | (go_at_call 15; refine (utf_Encode.calls (some ⟨wr.heap.size, 0, none⟩) 1 [c] s _ (one_C wr c) (Nat.le_refl _) HS.out).mono ?_; rintro e w1 ⟨rfl, hb⟩; have HB1 := Aside0.mk (((Below.refl _ wr).alloc (Nat.le_refl _) _).trans (hb.mono (by simp))); clear hb) | (go_at_call 9; refine (pct_In.calls a0 c false _ (congrArg some HIN.out)).mono ?_; rintro e w2 ⟨rfl, hb⟩; have HB2 := Aside0.mk (HB1.out.trans (hb.mono HB1.out.size)); clear hb) | (go_at_call 21; refine (bd_textIn w.heap.size w.heap.size _ s _ (bd_below HBu.out HB2.out) (by rw [cs_length]; omega) (Nat.le_trans HBW.out.size HB2.out.size)).mono ?_; rintro e w3 ⟨rfl, h3, hb⟩; have H3 := Aside0.mk h3; have HB3 := Aside0.mk hb; clear h3 hb))
        refine ⟨⟨i + 1, by simp, by omega, ?_, (HBW.out.trans (HB2.out.mono HBW.out.size)).trans HB3.out⟩, by simp [intOf]; omega⟩
        have h3 := H3.out
        rw [str_cells, HBS.out, ← cs_append] at h3
        rw [HST.out]
        unfold enc1S
        rw [if_neg (by rw [HIN.out]; decide)]
        exact Or.inr h3
      · have HIN := Aside0.mk hin
        clear hin
        go_wp2_with (first | (go_at_call 15; refine (utf_Encode.calls (some ⟨wr.heap.size, 0, none⟩) 1 [c] s _ (one_C wr c) (Nat.le_refl _) HS.out).mono ?_; rintro e w1 ⟨rfl, hb⟩; have HB1 := Aside0.mk (((Below.refl _ wr).alloc (Nat.le_refl _) _).trans (hb.mono (by simp))); clear hb) | (go_at_call 9; refine (pct_In.calls a0 c true _ (congrArg some HIN.out)).mono ?_; rintro e w2 ⟨rfl, hb⟩; have HB2 := Aside0.mk (HB1.out.trans (hb.mono HB1.out.size)); clear hb))
        have HBv := Aside0.mk (bd_below HBu.out HB2.out)
        have HBW2 := Aside0.mk (HBW.out.trans (HB2.out.mono HBW.out.size))
        clear HBu HBW HB1 HB2
        go_loopw [29] (fun v29 wq => ∃ (j : Nat), v29 = .int .i64 (j : Int) ∧ j ≤ (enc1 c).length ∧ Lib.IsBuilder 36 5 w.heap.size w.heap.size (cs (encS a0 (l1.take i) ++ ((enc1 c).take j).flatMap sign1)) wq ∧ Below w.heap.size w wq) (fun v _ => (enc1 c).length - (intOf v).toNat)
        case atStart => exact ⟨0, rfl, Nat.zero_le _, by simpa using HBv.out, HBW2.out⟩
        case round =>
          obtain ⟨j, rfl, hj, hb, hbw⟩ := hrel
          have HBX := Aside0.mk hb
          have HBY := Aside0.mk hbw
          clear hb hbw
          by_cases hjl : j < (enc1 c).length
          · have e1 : decide ((j : Int) < ((enc1 c).length : Int)) = true := decide_eq_true (by omega)
            have e2 : decide (j < (enc1 c).length) = true := decide_eq_true hjl
            have hx : ∀ h : j < s.size, ((s[j]'h).toNat : Int) = rd (enc1 c) (j : Int) := fun h => by
              have := bt_at s (j : Int) (by simpa using h)
              rw [← rd_bytesOf, HBS.out] at this
              simpa using this
            have hbr := enc1_range c _ (rd_mem (enc1 c) (j : Int) (by omega) (by omega))
            have hjs : (j < s.size) = True := eq_true (by omega)
            have htk2 : (enc1 c).take (j + 1) = (enc1 c).take j ++ [rd (enc1 c) (j : Int)] := by
              rw [List.take_succ_eq_append_getElem hjl]
              unfold rd
              simp [List.getD_eq_getElem?_getD, List.getElem?_eq_getElem hjl]
            have HTK2 := Aside0.mk htk2
            have hl3 : (((enc1 c).take j).flatMap sign1).length ≤ 12 := by
              have := (enc1_len c).2
              rw [List.length_flatMap]
              have h3 : ∀ l : List Int, (l.map fun b => (sign1 b).length).sum = 3 * l.length := by
                intro l
                induction l with
                | nil => rfl
                | cons x l ih => rw [List.map_cons, List.sum_cons, ih, List.length_cons]; simp [sign1]; omega
              rw [h3, List.length_take]
              omega
            clear htk2
            generalize rd (enc1 c) (j : Int) = b at *
            obtain ⟨b0, b1⟩ := hbr
            go_wp2_with (go_at_call 19; refine (sign_calls w.heap.size w.heap.size _ b b0 b1 _ HBX.out (by rw [cs_length, List.length_append]; omega) HBY.out.size).mono ?_; rintro e w3 ⟨rfl, h3, hb⟩; have H3 := Aside0.mk h3; have HB3 := Aside0.mk hb; clear h3 hb)
            refine ⟨⟨j + 1, by simp, by omega, ?_, HBY.out.trans HB3.out⟩, by simp [intOf]; omega⟩
            have h3 := H3.out
            rw [HTK2.out, List.flatMap_append, ← List.append_assoc, cs_append]
            simpa [sign1, cs] using h3
          · have e1 : decide ((j : Int) < ((enc1 c).length : Int)) = false := decide_eq_false (by omega)
            have e2 : decide (j < (enc1 c).length) = false := decide_eq_false hjl
            go_wp2
            have hbx := HBX.out
            rw [show (enc1 c).take j = enc1 c from List.take_of_length_le (by omega)] at hbx
            refine ⟨⟨i + 1, by simp, by omega, ?_, HBY.out⟩, by simp [intOf]; omega⟩
            rw [HST.out]
            unfold enc1S
            rw [if_pos HIN.out]
            exact hbx
    · have d1 : decide ((i : Int) < (l1.length : Int)) = false := decide_eq_false (by omega)
      have d2 : decide (i < l1.length) = false := decide_eq_false hlt
      have hall : l1.take i = l1 := List.take_of_length_le (by omega)
      rw [hall] at HBu
      have hb : Lib.IsBuilder 36 5 w.heap.size w.heap.size (Lib.byteCells (strOfNums (encS a0 l1)).data.toList) wr := by rw [cs_bytes _ (encS_range a0 l1)]; exact HBu.out
      have HBu' := Aside0.mk hb
      clear hb hall HBu
      go_wp2_with (go_at_call 22; refine (Try.Builder_String_any w.heap.size w.heap.size _ _ HBu'.out HBW.out.size).mono ?_; rintro e w1 ⟨rfl, hb⟩; have HB1 := Aside0.mk hb; clear hb)
      go_ret
      exact ⟨rfl, HBW.out.trans HB1.out⟩
theorem pct_Encode.calls (a0 : Int) (A1 : Option Addr) (c1 : Nat) (l1 : List Int) (r : ByteArray) (w : World) (hr1 : Kd.C (Kd.int .i32) w A1 l1.length l1) (hc1 : l1.length ≤ c1) (h : pct_Encode.f a0 l1 = some r) :
    Calls Try.prog 11 #[.int .i64 a0, .slice A1 l1.length c1] w fun e w' => e = .returned (.string r) ∧ Below w.heap.size w w' := by
  unfold pct_Encode.f at h
  split at h
  · rename_i hh
    obtain rfl := Option.some.inj h
    exact encode_walk a0 A1 c1 l1 w hr1 hc1 hh.1 hh.2
  · cases h
end Go.Proofs.Ytbdiklhffngjmaa
