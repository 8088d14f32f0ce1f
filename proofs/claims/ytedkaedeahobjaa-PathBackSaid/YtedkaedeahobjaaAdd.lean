/- path.Add, walked. -/
import Derived.Test.YtedkaedeahobjaaSeg
namespace Go.Proofs.Ytedkaedeahobjaa
open Go.RowKit Go.Proofs.YtedkaedeahobjaaW.PrintWords
set_option linter.unusedVariables false
set_option linter.unusedSimpArgs false

def drive1 (s : ByteArray) : ByteArray := s.extract 0 1 ++ ⟨#[58]⟩
/-- A path with a segment more. -/
def addL (a0 : ByteArray) (l : List ByteArray) (s : ByteArray) (last : Bool) : List ByteArray :=
  if dots s = true then (if last = true then shL a0 l ++ [⟨#[]⟩] else shL a0 l)
  else if dot s = true then (if last = true then l ++ [⟨#[]⟩] else l)
  else if a0.toList = fileL ∧ l.length = 0 ∧ drv s = true then l ++ [drive1 s] else l ++ [s]
theorem shL_len (a0 : ByteArray) (l : List ByteArray) : (shL a0 l).length ≤ l.length := by
  unfold shL
  split
  · exact Nat.le_refl _
  · rw [List.length_take]; omega
theorem none_len {w : World} {A : Option Addr} {l : List ByteArray} (h : Kd.C Kd.string w A l.length l) (hA : A = none) : l.length = 0 := by
  subst hA
  rcases Nat.eq_zero_or_pos l.length with h0 | h0
  · exact h0
  · obtain ⟨ad, e, _⟩ := h.2.2 h0
    cases e
theorem cells_C {w : World} {A : Option Addr} {l : List ByteArray} (h : Kd.C Kd.string w A l.length l) : ∀ b, A = some b → ∀ j u, (l.map Value.string)[j]? = some u → w.cell? (b.add j) = some u := by
  intro b hb j u hj
  have hl : j < l.length := by have := (List.getElem?_eq_some_iff.1 hj).1; simpa using this
  obtain ⟨ad, e, hc⟩ := (Kd.reads_of_C (d := ByteArray.empty) h).2.2 (by omega)
  rw [hb] at e
  cases e
  rw [hc j hl, ← hj, List.getElem?_map, List.getElem?_eq_getElem hl, List.getD_eq_getElem?_getD, List.getElem?_eq_getElem hl]
  rfl
theorem one_cell (w : World) (s : ByteArray) : ∀ j u, ([Value.string s] : List Value)[j]? = some u → (w.alloc (.cells #[.string s] 9)).cell? ((⟨w.heap.size, 0, none⟩ : Addr).add j) = some u := by
  intro j u hj
  match j, hj with
  | 0, hj => simp at hj; subst hj; simp [Addr.add]
theorem R_added {w1 : World} {v : Value} {l : List ByteArray} {s : ByteArray} {B b : Nat} (h : w1.ownsRow b 9 1 v (l.length + 1) (l.map Value.string ++ [Value.string s])) (hb : B ≤ b) : Kd.R Kd.string 9 w1 B (fun _ => True) v (l ++ [s]) := by
  refine Kd.R_lower (Kd.R_of_own (enc := Value.string) (h1 := fun _ => rfl) ?_ (fun _ _ => trivial)) hb
  simpa [encs] using h
set_option maxHeartbeats 4000000 in
set_option maxRecDepth 100000 in
/-- Two dots. -/
theorem add_dots (a0 : ByteArray) (A1 : Option Addr) (c1 : Nat) (l1 : List ByteArray) (s : ByteArray) (last : Bool) (w : World) (hr1 : Kd.C Kd.string w A1 l1.length l1) (hc1 : l1.length ≤ c1) (hbig : l1.length ≤ 1000000000) (hsz : s.size ≤ 1000000000) (hd : dots s = true) :
    Calls Try.prog 10 #[.string a0, .slice A1 l1.length c1, .string s, .bool last] w fun e w' => ∃ v, e = .returned v ∧ Kd.R Kd.string 9 w' w.heap.size (fun _ => True) v (addL a0 l1 s last) ∧ Below w.heap.size w w' := by
  obtain ⟨i0, hi, hz0, hz1, hz2⟩ := info_parts info_s
  have HR := Aside0.mk hr1
  have HBG := Aside0.mk hbig
  have HF : Aside0 (path_Dots.f s = some true) := Aside0.mk (by unfold path_Dots.f; rw [if_pos hsz, hd])
  have HSH : Aside0 (path_Shorten.f a0 l1 = some (shL a0 l1)) := Aside0.mk (by unfold path_Shorten.f; rw [if_pos hbig])
  have hle := shL_len a0 l1
  cases last
  · have ha : addL a0 l1 s false = shL a0 l1 := by unfold addL; rw [if_pos hd]; rfl
    rw [ha]
    clear hr1 hbig ha
    generalize shL a0 l1 = r at *
    go_enter Try.func10, Try.ntmps10
    go_wp2_with (first | (go_at_call 13; refine (path_Dots.calls s true _ HF.out).mono ?_; rintro e w1 ⟨rfl, hb1⟩; have HB1 := Aside0.mk hb1; clear hb1) | (go_at_call 11; refine (path_Shorten.calls a0 A1 c1 l1 r _ (Kd.C_below HR.out HB1.out) hc1 HSH.out).mono ?_; rintro e w2 ⟨v, rfl, hv, hb2⟩; obtain ⟨A2, c2, rfl, hc2, hr2⟩ := Kd.R_reads hv; have HR2 := Aside0.mk hr2; have HB2 := Aside0.mk (HB1.out.trans (hb2.mono HB1.out.size)); clear hb2 hv hr2) | (go_at_call 27; refine (clone_calls A2 c2 r _ HR2.out (Nat.le_trans hle HBG.out)).mono ?_; rintro e w3 ⟨v3, rfl, hv3, hb3⟩))
    go_ret
    exact ⟨v3, rfl, Kd.R_lower hv3 HB2.out.size, HB2.out.trans (hb3.mono HB2.out.size)⟩
  · have ha : addL a0 l1 s true = shL a0 l1 ++ [⟨#[]⟩] := by unfold addL; rw [if_pos hd]; rfl
    rw [ha]
    clear hr1 hbig ha
    generalize shL a0 l1 = r at *
    go_enter Try.func10, Try.ntmps10
    go_wp2_with (first | (go_at_call 13; refine (path_Dots.calls s true _ HF.out).mono ?_; rintro e w1 ⟨rfl, hb1⟩; have HB1 := Aside0.mk hb1; clear hb1) | (go_at_call 11; refine (path_Shorten.calls a0 A1 c1 l1 r _ (Kd.C_below HR.out HB1.out) hc1 HSH.out).mono ?_; rintro e w2 ⟨v, rfl, hv, hb2⟩; obtain ⟨A2, c2, rfl, hc2, hr2⟩ := Kd.R_reads hv; have HR2 := Aside0.mk hr2; have HB2 := Aside0.mk (HB1.out.trans (hb2.mono HB1.out.size)); clear hb2 hv hr2) | (go_at_call 28; refine (clip_calls A2 r.length c2 _ (none_len HR2.out) hc2 (Nat.le_trans hle HBG.out)).mono ?_; rintro e w3 ⟨rfl, hw3⟩; cases hw3) | (at_builtin; refine wpList_append_grows _ rfl _ _ 22 rfl 9 i0 (.string ⟨#[]⟩) 1 16 Try.underlying22 hi hz0 hz1 hz2 rfl (by decide) A2 r.length r.length (r.map Value.string) rfl (fun h => ⟨none_len HR2.out h, none_len HR2.out h⟩) (by simp) (cells_C (Kd.C_below HR2.out ((Below.refl _ _).alloc (Nat.le_refl _) _))) _ 1 1 [.string ⟨#[]⟩] rfl rfl (one_cell _ _) (fun u hu => by simp at hu; subst hu; rfl) (by omega) (by have := HBG.out; unfold maxLen; omega) (by have := HBG.out; omega) ?_; intro v' w4 hown hgrow))
    go_ret
    exact ⟨v', rfl, R_added hown (by rw [World.size_alloc]; have := HB2.out.size; omega), (HB2.out.alloc HB2.out.size _).grown hgrow (by rw [World.size_alloc]; have := HB2.out.size; omega) (by intro k hk; cases hk)⟩
set_option maxHeartbeats 4000000 in
set_option maxRecDepth 100000 in
/-- One dot. -/
theorem add_dot (a0 : ByteArray) (A1 : Option Addr) (c1 : Nat) (l1 : List ByteArray) (s : ByteArray) (last : Bool) (w : World) (hr1 : Kd.C Kd.string w A1 l1.length l1) (hc1 : l1.length ≤ c1) (hbig : l1.length ≤ 1000000000) (hsz : s.size ≤ 1000000000) (hd : dots s = false) (hd1 : dot s = true) :
    Calls Try.prog 10 #[.string a0, .slice A1 l1.length c1, .string s, .bool last] w fun e w' => ∃ v, e = .returned v ∧ Kd.R Kd.string 9 w' w.heap.size (fun _ => True) v (addL a0 l1 s last) ∧ Below w.heap.size w w' := by
  obtain ⟨i0, hi, hz0, hz1, hz2⟩ := info_parts info_s
  have HR := Aside0.mk hr1
  have HBG := Aside0.mk hbig
  have HF : Aside0 (path_Dots.f s = some false) := Aside0.mk (by unfold path_Dots.f; rw [if_pos hsz, hd])
  have HE : Aside0 (path_Dot.f s = some true) := Aside0.mk (by unfold path_Dot.f; rw [if_pos hsz, hd1])
  have hnd : ¬ dots s = true := by rw [hd]; decide
  cases last
  · have ha : addL a0 l1 s false = l1 := by unfold addL; rw [if_neg hnd, if_pos hd1]; rfl
    rw [ha]
    clear hr1 hbig ha
    go_enter Try.func10, Try.ntmps10
    go_wp2_with (first | (go_at_call 13; refine (path_Dots.calls s false _ HF.out).mono ?_; rintro e w1 ⟨rfl, hb1⟩; have HB1 := Aside0.mk hb1; clear hb1) | (go_at_call 12; refine (path_Dot.calls s true _ HE.out).mono ?_; rintro e w2 ⟨rfl, hb2⟩; have HB2 := Aside0.mk (HB1.out.trans (hb2.mono HB1.out.size)); clear hb2) | (go_at_call 27; refine (clone_calls A1 c1 l1 _ (Kd.C_below HR.out HB2.out) HBG.out).mono ?_; rintro e w3 ⟨v3, rfl, hv3, hb3⟩))
    go_ret
    exact ⟨v3, rfl, Kd.R_lower hv3 HB2.out.size, HB2.out.trans (hb3.mono HB2.out.size)⟩
  · have ha : addL a0 l1 s true = l1 ++ [⟨#[]⟩] := by unfold addL; rw [if_neg hnd, if_pos hd1]; rfl
    rw [ha]
    clear hr1 hbig ha
    go_enter Try.func10, Try.ntmps10
    go_wp2_with (first | (go_at_call 13; refine (path_Dots.calls s false _ HF.out).mono ?_; rintro e w1 ⟨rfl, hb1⟩; have HB1 := Aside0.mk hb1; clear hb1) | (go_at_call 12; refine (path_Dot.calls s true _ HE.out).mono ?_; rintro e w2 ⟨rfl, hb2⟩; have HB2 := Aside0.mk (HB1.out.trans (hb2.mono HB1.out.size)); clear hb2) | (go_at_call 28; refine (clip_calls A1 l1.length c1 _ (none_len HR.out) hc1 HBG.out).mono ?_; rintro e w5 ⟨rfl, hw5⟩; cases hw5) | (at_builtin; refine wpList_append_grows _ rfl _ _ 22 rfl 9 i0 (.string ⟨#[]⟩) 1 16 Try.underlying22 hi hz0 hz1 hz2 rfl (by decide) A1 l1.length l1.length (l1.map Value.string) rfl (fun h => ⟨none_len HR.out h, none_len HR.out h⟩) (by simp) (cells_C (Kd.C_below HR.out (HB2.out.alloc HB2.out.size _))) _ 1 1 [.string ⟨#[]⟩] rfl rfl (one_cell _ _) (fun u hu => by simp at hu; subst hu; rfl) (by omega) (by have := HBG.out; unfold maxLen; omega) (by have := HBG.out; omega) ?_; intro v' w4 hown hgrow))
    go_ret
    exact ⟨v', rfl, R_added hown (by rw [World.size_alloc]; have := HB2.out.size; omega), (HB2.out.alloc HB2.out.size _).grown hgrow (by rw [World.size_alloc]; have := HB2.out.size; omega) (by intro k hk; cases hk)⟩
set_option maxHeartbeats 4000000 in
set_option maxRecDepth 100000 in
/-- No dots. -/
theorem add_plain (a0 : ByteArray) (A1 : Option Addr) (c1 : Nat) (l1 : List ByteArray) (s : ByteArray) (last : Bool) (w : World) (hr1 : Kd.C Kd.string w A1 l1.length l1) (hc1 : l1.length ≤ c1) (hbig : l1.length ≤ 1000000000) (hsz : s.size ≤ 1000000000) (hd : dots s = false) (hd1 : dot s = false) :
    Calls Try.prog 10 #[.string a0, .slice A1 l1.length c1, .string s, .bool last] w fun e w' => ∃ v, e = .returned v ∧ Kd.R Kd.string 9 w' w.heap.size (fun _ => True) v (addL a0 l1 s last) ∧ Below w.heap.size w w' := by
  obtain ⟨i0, hi, hz0, hz1, hz2⟩ := info_parts info_s
  have HR := Aside0.mk hr1
  have HBG := Aside0.mk hbig
  have HF : Aside0 (path_Dots.f s = some false) := Aside0.mk (by unfold path_Dots.f; rw [if_pos hsz, hd])
  have HE : Aside0 (path_Dot.f s = some false) := Aside0.mk (by unfold path_Dot.f; rw [if_pos hsz, hd1])
  have hnd : ¬ dots s = true := by rw [hd]; decide
  have hnd1 : ¬ dot s = true := by rw [hd1]; decide
  by_cases hf : a0.toList = fileL
  · have f1 : (a0.toList == ([102, 105, 108, 101] : List UInt8)) = true := beq_iff_eq.2 hf
    by_cases h0 : l1.length = 0
    · obtain rfl : l1 = [] := List.length_eq_zero_iff.1 h0
      by_cases hv : drv s = true
      · have ha : addL a0 [] s last = [drive1 s] := by unfold addL; rw [if_neg hnd, if_neg hnd1, if_pos ⟨hf, rfl, hv⟩]; rfl
        rw [ha]
        have hs2 : s.size = 2 := (of_decide_eq_true hv).1
        have hx1 : (1 : Int) ≤ (s.size : Int) := by omega
        have hx2 : 1 ≤ s.size := by omega
        clear hr1 hbig ha hc1
        go_enter Try.func10, Try.ntmps10
        go_wp2_with (first | (go_at_call 13; refine (path_Dots.calls s false _ HF.out).mono ?_; rintro e w1 ⟨rfl, hb1⟩; have HB1 := Aside0.mk hb1; clear hb1) | (go_at_call 12; refine (path_Dot.calls s false _ HE.out).mono ?_; rintro e w2 ⟨rfl, hb2⟩; have HB2 := Aside0.mk (HB1.out.trans (hb2.mono HB1.out.size)); clear hb2) | (go_at_call 14; refine (path_Drive.calls s true _ (congrArg some hv)).mono ?_; rintro e w3 ⟨rfl, ⟨nd, rfl⟩⟩; have HB3 := Aside0.mk (pw_below_drewN HB2.out nd)) | (go_at_call 28; refine (clip_calls A1 0 c1 _ (fun _ => rfl) (Nat.zero_le _) (by omega)).mono ?_; rintro e w5 ⟨rfl, hw5⟩; cases hw5) | (at_builtin; refine wpList_append_grows _ rfl _ _ 22 rfl 9 i0 (.string ⟨#[]⟩) 1 16 Try.underlying22 hi hz0 hz1 hz2 rfl (by decide) A1 0 0 [] rfl (fun _ => ⟨rfl, rfl⟩) rfl (fun _ _ j u hj => by simp at hj) _ 1 1 [.string (s.extract 0 1 ++ ⟨#[58]⟩)] rfl rfl (one_cell _ _) (fun u hu => by simp at hu; subst hu; rfl) (by omega) (by decide) (by decide) ?_; intro v' w4 hown hgrow))
        go_ret
        exact ⟨v', rfl, R_added (l := []) (s := drive1 s) hown (by rw [World.size_alloc]; have := HB3.out.size; omega), (HB3.out.alloc HB3.out.size _).grown hgrow (by rw [World.size_alloc]; have := HB3.out.size; omega) (by intro k hk; cases hk)⟩
      · have ha : addL a0 [] s last = [s] := by unfold addL; rw [if_neg hnd, if_neg hnd1, if_neg (fun h => hv h.2.2)]; rfl
        rw [ha]
        have hv := Bool.eq_false_iff.2 hv
        clear hr1 hbig ha hc1
        go_enter Try.func10, Try.ntmps10
        go_wp2_with (first | (go_at_call 13; refine (path_Dots.calls s false _ HF.out).mono ?_; rintro e w1 ⟨rfl, hb1⟩; have HB1 := Aside0.mk hb1; clear hb1) | (go_at_call 12; refine (path_Dot.calls s false _ HE.out).mono ?_; rintro e w2 ⟨rfl, hb2⟩; have HB2 := Aside0.mk (HB1.out.trans (hb2.mono HB1.out.size)); clear hb2) | (go_at_call 14; refine (path_Drive.calls s false _ (congrArg some hv)).mono ?_; rintro e w3 ⟨rfl, ⟨nd, rfl⟩⟩; have HB3 := Aside0.mk (pw_below_drewN HB2.out nd)) | (go_at_call 28; refine (clip_calls A1 0 c1 _ (fun _ => rfl) (Nat.zero_le _) (by omega)).mono ?_; rintro e w5 ⟨rfl, hw5⟩; cases hw5) | (at_builtin; refine wpList_append_grows _ rfl _ _ 22 rfl 9 i0 (.string ⟨#[]⟩) 1 16 Try.underlying22 hi hz0 hz1 hz2 rfl (by decide) A1 0 0 [] rfl (fun _ => ⟨rfl, rfl⟩) rfl (fun _ _ j u hj => by simp at hj) _ 1 1 [.string s] rfl rfl (one_cell _ _) (fun u hu => by simp at hu; subst hu; rfl) (by omega) (by decide) (by decide) ?_; intro v' w4 hown hgrow))
        go_ret
        exact ⟨v', rfl, R_added (l := []) (s := s) hown (by rw [World.size_alloc]; have := HB3.out.size; omega), (HB3.out.alloc HB3.out.size _).grown hgrow (by rw [World.size_alloc]; have := HB3.out.size; omega) (by intro k hk; cases hk)⟩
    · have ha : addL a0 l1 s last = l1 ++ [s] := by unfold addL; rw [if_neg hnd, if_neg hnd1, if_neg (fun h => h0 h.2.1)]
      rw [ha]
      have g0 : ((l1.length : Int) == 0) = false := beq_eq_false_iff_ne.2 (by omega)
      clear hr1 hbig ha
      go_enter Try.func10, Try.ntmps10
      go_wp2_with (first | (go_at_call 13; refine (path_Dots.calls s false _ HF.out).mono ?_; rintro e w1 ⟨rfl, hb1⟩; have HB1 := Aside0.mk hb1; clear hb1) | (go_at_call 12; refine (path_Dot.calls s false _ HE.out).mono ?_; rintro e w2 ⟨rfl, hb2⟩; have HB2 := Aside0.mk (HB1.out.trans (hb2.mono HB1.out.size)); clear hb2) | (go_at_call 28; refine (clip_calls A1 l1.length c1 _ (none_len HR.out) hc1 HBG.out).mono ?_; rintro e w5 ⟨rfl, hw5⟩; cases hw5) | (at_builtin; refine wpList_append_grows _ rfl _ _ 22 rfl 9 i0 (.string ⟨#[]⟩) 1 16 Try.underlying22 hi hz0 hz1 hz2 rfl (by decide) A1 l1.length l1.length (l1.map Value.string) rfl (fun h => ⟨none_len HR.out h, none_len HR.out h⟩) (by simp) (cells_C (Kd.C_below HR.out (HB2.out.alloc HB2.out.size _))) _ 1 1 [.string s] rfl rfl (one_cell _ _) (fun u hu => by simp at hu; subst hu; rfl) (by omega) (by have := HBG.out; unfold maxLen; omega) (by have := HBG.out; omega) ?_; intro v' w4 hown hgrow))
      go_ret
      exact ⟨v', rfl, R_added (l := l1) (s := s) hown (by rw [World.size_alloc]; have := HB2.out.size; omega), (HB2.out.alloc HB2.out.size _).grown hgrow (by rw [World.size_alloc]; have := HB2.out.size; omega) (by intro k hk; cases hk)⟩
  · have ha : addL a0 l1 s last = l1 ++ [s] := by unfold addL; rw [if_neg hnd, if_neg hnd1, if_neg (fun h => hf h.1)]
    rw [ha]
    have f1 : (a0.toList == ([102, 105, 108, 101] : List UInt8)) = false := beq_eq_false_iff_ne.2 hf
    clear hr1 hbig ha
    go_enter Try.func10, Try.ntmps10
    go_wp2_with (first | (go_at_call 13; refine (path_Dots.calls s false _ HF.out).mono ?_; rintro e w1 ⟨rfl, hb1⟩; have HB1 := Aside0.mk hb1; clear hb1) | (go_at_call 12; refine (path_Dot.calls s false _ HE.out).mono ?_; rintro e w2 ⟨rfl, hb2⟩; have HB2 := Aside0.mk (HB1.out.trans (hb2.mono HB1.out.size)); clear hb2) | (go_at_call 28; refine (clip_calls A1 l1.length c1 _ (none_len HR.out) hc1 HBG.out).mono ?_; rintro e w5 ⟨rfl, hw5⟩; cases hw5) | (at_builtin; refine wpList_append_grows _ rfl _ _ 22 rfl 9 i0 (.string ⟨#[]⟩) 1 16 Try.underlying22 hi hz0 hz1 hz2 rfl (by decide) A1 l1.length l1.length (l1.map Value.string) rfl (fun h => ⟨none_len HR.out h, none_len HR.out h⟩) (by simp) (cells_C (Kd.C_below HR.out (HB2.out.alloc HB2.out.size _))) _ 1 1 [.string s] rfl rfl (one_cell _ _) (fun u hu => by simp at hu; subst hu; rfl) (by omega) (by have := HBG.out; unfold maxLen; omega) (by have := HBG.out; omega) ?_; intro v' w4 hown hgrow))
    go_ret
    exact ⟨v', rfl, R_added (l := l1) (s := s) hown (by rw [World.size_alloc]; have := HB2.out.size; omega), (HB2.out.alloc HB2.out.size _).grown hgrow (by rw [World.size_alloc]; have := HB2.out.size; omega) (by intro k hk; cases hk)⟩
def path_Add.f (a0 : ByteArray) (l1 : List ByteArray) (a2 : ByteArray) (a3 : Bool) : Option (List ByteArray) := if l1.length ≤ 1000000000 ∧ a2.size ≤ 1000000000 then some (addL a0 l1 a2 a3) else none
theorem path_Add.calls (a0 : ByteArray) (A1 : Option Addr) (c1 : Nat) (l1 : List ByteArray) (a2 : ByteArray) (a3 : Bool) (r : List ByteArray) (w : World) (hr1 : Kd.C Kd.string w A1 l1.length l1) (hc1 : l1.length ≤ c1) (h : path_Add.f a0 l1 a2 a3 = some r) :
    Calls Try.prog 10 #[.string a0, .slice A1 l1.length c1, .string a2, .bool a3] w fun e w' => ∃ v0_, e = .returned v0_ ∧ Kd.R Kd.string 9 w' w.heap.size (fun _ => True) v0_ r ∧ Below w.heap.size w w' := by
  unfold path_Add.f at h
  split at h
  · rename_i hh
    obtain rfl := Option.some.inj h
    by_cases hd : dots a2 = true
    · exact add_dots a0 A1 c1 l1 a2 a3 w hr1 hc1 hh.1 hh.2 hd
    · by_cases hd1 : dot a2 = true
      · exact add_dot a0 A1 c1 l1 a2 a3 w hr1 hc1 hh.1 hh.2 (Bool.eq_false_iff.2 hd) hd1
      · exact add_plain a0 A1 c1 l1 a2 a3 w hr1 hc1 hh.1 hh.2 (Bool.eq_false_iff.2 hd) (Bool.eq_false_iff.2 hd1)
  · cases h
end Go.Proofs.Ytedkaedeahobjaa
