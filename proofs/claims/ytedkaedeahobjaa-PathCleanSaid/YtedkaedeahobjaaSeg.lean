/- path.Shorten and path.Add, walked. -/
import Derived.Test.YtedkaedeahobjaaPPrax1
import Derived.Test.YtedkaedeahobjaaClone
import Derived.BigQuiet
namespace Go.Proofs.Ytedkaedeahobjaa
open Go.RowKit Go.Proofs.YtedkaedeahobjaaW.PrintWords
set_option linter.unusedVariables false
set_option linter.unusedSimpArgs false

/-- A letter; a drive's letter. -/
def letr (c : Int) : Bool := decide (97 ≤ Go.bits .or .u8 c 32 ∧ Go.bits .or .u8 c 32 ≤ 122)
def drv (s : ByteArray) : Bool := decide (s.size = 2 ∧ letr (bt s 0) = true ∧ (bt s 1 = 58 ∨ bt s 1 = 124))
theorem letter_f (c : Int) : PPra.path_letter.f c = some (letr c) := by
  unfold PPra.path_letter.f letr
  by_cases h : (Go.bits .or .u8 c 32) ≥ 97
  · rw [if_pos h]
    congr 1
    exact decide_eq_decide.2 ⟨fun k => ⟨h, k⟩, fun k => k.2⟩
  · rw [if_neg h, decide_eq_false (fun k => h k.1)]
theorem drive_f (s : ByteArray) : PPra.path_Drive.f s = some (drv s) := by
  unfold PPra.path_Drive.f drv
  by_cases h : (s.size : Int) = 2
  · rw [if_pos h, if_pos (by omega), letter_f]
    show (if letr (bt s 0) = true then _ else _) = _
    have hs : s.size = 2 := by omega
    by_cases hl : letr (bt s 0) = true
    · rw [if_pos hl, if_pos (by omega)]
      by_cases h1 : bt s 1 = 58
      · rw [if_pos h1, decide_eq_true ⟨hs, hl, .inl h1⟩]
      · rw [if_neg h1]
        congr 1
        by_cases h2 : bt s 1 = 124
        · rw [decide_eq_true ⟨hs, hl, .inr h2⟩, h2]; rfl
        · rw [decide_eq_false (fun k => k.2.2.elim h1 h2)]; exact beq_eq_false_iff_ne.2 h2
    · rw [if_neg hl, decide_eq_false (fun k => hl k.2.1)]
  · rw [if_neg h, decide_eq_false (fun k => h (by omega))]
def path_Drive.f (a0 : ByteArray) : Option Bool := some (drv a0)
theorem path_Drive.calls (a0 : ByteArray) (r : Bool) (w : World) (h : path_Drive.f a0 = some r) : Calls Try.prog 14 #[.string a0] w fun e w' => e = .returned (.bool r) ∧ Drawn0 w w' :=
  PPra.path_Drive.calls a0 r w ((drive_f a0).trans h)
/-- One dot, two dots. -/
def dot (s : ByteArray) : Bool := rep s.data.toList == [46]
def dots (s : ByteArray) : Bool := rep s.data.toList == [46, 46]
def path_Dot.f (a0 : ByteArray) : Option Bool := if a0.size ≤ 1000000000 then some (dot a0) else none
def path_Dots.f (a0 : ByteArray) : Option Bool := if a0.size ≤ 1000000000 then some (dots a0) else none
theorem toList_arr (l : List UInt8) : (⟨l.toArray⟩ : ByteArray).toList = l := by rw [ByteArray.toList_eq]
theorem path_Dot.calls (a0 : ByteArray) (r : Bool) (w : World) (h : path_Dot.f a0 = some r) : Calls Try.prog 12 #[.string a0] w fun e w' => e = .returned (.bool r) ∧ Below w.heap.size w w' := by
  refine PPra.path_Dot.calls a0 r w ?_
  unfold path_Dot.f at h
  split at h
  · rename_i hh
    unfold PPra.path_Dot.f path_plain.f
    rw [if_pos hh, ← h]
    show some _ = some _
    rw [toList_arr]; rfl
  · cases h
theorem path_Dots.calls (a0 : ByteArray) (r : Bool) (w : World) (h : path_Dots.f a0 = some r) : Calls Try.prog 13 #[.string a0] w fun e w' => e = .returned (.bool r) ∧ Below w.heap.size w w' := by
  refine PPra.path_Dots.calls a0 r w ?_
  unfold path_Dots.f at h
  split at h
  · rename_i hh
    unfold PPra.path_Dots.f path_plain.f
    rw [if_pos hh, ← h]
    show some _ = some _
    rw [toList_arr]; rfl
  · cases h
def fileL : List UInt8 := [102, 105, 108, 101]
/-- A path without its last segment. -/
def stays (a0 : ByteArray) (l : List ByteArray) : Bool := decide (l.length = 0 ∨ (a0.toList = fileL ∧ l.length = 1 ∧ drv (rdOf ByteArray.empty l 0) = true ∧ bt (rdOf ByteArray.empty l 0) 1 = 58))
def shL (a0 : ByteArray) (l : List ByteArray) : List ByteArray := if stays a0 l = true then l else l.take (l.length - 1)
def path_Shorten.f (a0 : ByteArray) (l1 : List ByteArray) : Option (List ByteArray) := if l1.length ≤ 1000000000 then some (shL a0 l1) else none

theorem clone_calls' (A : Option Addr) (n c : Nat) (l : List ByteArray) (w : World) (hn : l.length = n) (hr : Kd.C Kd.string w A l.length l) (hbig : n ≤ 1000000000) :
    Calls Try.prog 27 #[.slice A n c] w fun e w' => ∃ v, e = .returned v ∧ Kd.R Kd.string 9 w' w.heap.size (fun _ => True) v l ∧ Below w.heap.size w w' := by
  subst hn
  exact clone_calls A c l w hr hbig
theorem C_zero (w : World) (A : Option Addr) : Kd.C Kd.string w A 0 [] := ⟨rfl, by omega, fun h => absurd h (by omega)⟩
theorem C_take {w : World} {A : Option Addr} {l : List ByteArray} (h : Kd.C Kd.string w A l.length l) (m : Nat) : Kd.C Kd.string w A (l.take m).length (l.take m) := by
  refine Kd.C_of_reads (d := ByteArray.empty) ?_
  obtain ⟨_, h2, h3⟩ := Kd.reads_of_C (d := ByteArray.empty) h
  have hle : (l.take m).length ≤ l.length := by rw [List.length_take]; omega
  refine ⟨rfl, by omega, fun hp => ?_⟩
  obtain ⟨ad, e, hc⟩ := h3 (by omega)
  refine ⟨ad, e, fun j hj => ?_⟩
  rw [hc j (by omega)]
  rw [List.length_take] at hj
  rw [List.getD_eq_getElem?_getD, List.getD_eq_getElem?_getD, List.getElem?_take_of_lt (by omega)]
set_option maxHeartbeats 4000000 in
set_option maxRecDepth 100000 in
theorem shorten_walk (a0 : ByteArray) (A1 : Option Addr) (c1 : Nat) (l1 : List ByteArray) (w : World) (hr1 : Kd.C Kd.string w A1 l1.length l1) (hc1 : l1.length ≤ c1) (hbig : l1.length ≤ 1000000000) :
    Calls Try.prog 11 #[.string a0, .slice A1 l1.length c1] w fun e w' => ∃ v, e = .returned v ∧ Kd.R Kd.string 9 w' w.heap.size (fun _ => True) v (shL a0 l1) ∧ Below w.heap.size w w' := by
  have HR := Aside0.mk hr1
  have HBG := Aside0.mk hbig
  rcases l1 with _ | ⟨x, _ | ⟨y, l⟩⟩
  · have hsh : shL a0 [] = [] := rfl
    rw [hsh]
    clear hr1 hbig
    go_enter Try.func11, Try.ntmps11
    go_wp2_with (go_at_call 27; refine (clone_calls A1 c1 [] _ HR.out HBG.out).mono ?_; rintro e w1 ⟨v, rfl, hv, hb⟩)
    go_ret
    exact ⟨v, rfl, hv, hb⟩
  · obtain ⟨ad, rfl, hcell⟩ := (Kd.reads_of_C (d := ByteArray.empty) hr1).2.2 (by simp)
    have k0 : w.cell? ad = some (.string x) := by have := hcell 0 (by simp); rwa [Addr.add_zero'] at this
    have HC0 : Aside0 (∀ w', Below w.heap.size w w' → Kd.C Kd.string w' (some ad) 0 []) := Aside0.mk (fun w' hb => ⟨rfl, by omega, fun h => absurd h (by omega)⟩)
    clear hr1 hbig hcell
    by_cases hf : a0.toList = fileL
    · have f1 : (a0.toList == ([102, 105, 108, 101] : List UInt8)) = true := beq_iff_eq.2 hf
      by_cases hd : drv x = true
      · have hsz : x.size = 2 := (of_decide_eq_true hd).1
        have hx1 : (1 : Int) < (x.size : Int) := by omega
        have hx2 : 1 < x.size := by omega
        by_cases h58 : bt x 1 = 58
        · have hsh : shL a0 [x] = [x] := by unfold shL stays; rw [if_pos (decide_eq_true (.inr ⟨hf, rfl, hd, h58⟩))]
          have e0 : ∀ h, ((x[1]'h).toNat : Int) = 58 := fun h => (bt_at x 1 h).trans h58
          rw [hsh]
          go_enter Try.func11, Try.ntmps11
          go_wp2_with (first | (go_at_call 14; refine (path_Drive.calls x true _ (congrArg some hd)).mono ?_; rintro e w' ⟨rfl, ⟨nd, rfl⟩⟩) | (go_at_call 27; refine (clone_calls (some ad) c1 [x] _ (Kd.C_drewN HR.out _) HBG.out).mono ?_; rintro e w1 ⟨v, rfl, hv, hb⟩))
          go_ret
          exact ⟨v, rfl, hv, (pw_below_drewN (Below.refl _ w) nd).trans hb⟩
        · have hsh : shL a0 [x] = [] := by unfold shL stays; rw [if_neg (by rw [decide_eq_false (fun h => h.elim (fun h => by simp at h) (fun h => h58 h.2.2.2))]; decide)]; rfl
          have e0 : ∀ h, ((x[1]'h).toNat : Int) = bt x 1 := fun h => bt_at x 1 h
          rw [hsh]
          have b58 : (bt x 1 == 58) = false := beq_eq_false_iff_ne.2 h58
          generalize bt x 1 = z at *
          go_enter Try.func11, Try.ntmps11
          go_wp2_with (first | (go_at_call 14; refine (path_Drive.calls x true _ (congrArg some hd)).mono ?_; rintro e w' ⟨rfl, ⟨nd, rfl⟩⟩) | (go_at_call 27; refine (clone_calls (some ad) 0 [] _ (C_zero _ _) (by simp)).mono ?_; rintro e w1 ⟨v, rfl, hv, hb⟩))
          go_ret
          exact ⟨v, rfl, hv, (pw_below_drewN (Below.refl _ w) nd).trans hb⟩
      · have hd' := Bool.eq_false_iff.2 hd
        have hsh : shL a0 [x] = [] := by unfold shL stays; rw [if_neg (by rw [decide_eq_false (fun h => h.elim (fun h => by simp at h) (fun h => hd h.2.2.1))]; decide)]; rfl
        rw [hsh]
        go_enter Try.func11, Try.ntmps11
        go_wp2_with (first | (go_at_call 14; refine (path_Drive.calls x false _ (congrArg some hd')).mono ?_; rintro e w' ⟨rfl, ⟨nd, rfl⟩⟩) | (go_at_call 27; refine (clone_calls (some ad) 0 [] _ (C_zero _ _) (by simp)).mono ?_; rintro e w1 ⟨v, rfl, hv, hb⟩))
        go_ret
        exact ⟨v, rfl, hv, (pw_below_drewN (Below.refl _ w) nd).trans hb⟩
    · have f1 : (a0.toList == ([102, 105, 108, 101] : List UInt8)) = false := beq_eq_false_iff_ne.2 hf
      have hsh : shL a0 [x] = [] := by unfold shL stays; rw [if_neg (by rw [decide_eq_false (fun h => h.elim (fun h => by simp at h) (fun h => hf h.1))]; decide)]; rfl
      rw [hsh]
      go_enter Try.func11, Try.ntmps11
      go_wp2_with (go_at_call 27; refine (clone_calls (some ad) 0 [] _ (C_zero _ _) (by simp)).mono ?_; rintro e w1 ⟨v, rfl, hv, hb⟩)
      go_ret
      exact ⟨v, rfl, hv, hb⟩
  · have hl2 : (x :: y :: l).length = l.length + 1 + 1 := rfl
    generalize hll : x :: y :: l = l1 at *
    obtain ⟨ad, rfl, _⟩ := (Kd.reads_of_C (d := ByteArray.empty) hr1).2.2 (by omega)
    have hsh : shL a0 l1 = l1.take (l1.length - 1) := by unfold shL stays; rw [if_neg (by rw [decide_eq_false (by omega)]; decide)]
    rw [hsh]
    have HC : Aside0 (∀ w', Below w.heap.size w w' → Kd.C Kd.string w' (some ad) (l1.take (l1.length - 1)).length (l1.take (l1.length - 1))) := Aside0.mk (fun w' hb => C_take (Kd.C_below HR.out hb) _)
    have hlen : (l1.take (l1.length - 1)).length = l.length + 1 := by rw [List.length_take]; omega
    have hm : l1.length = l.length + 1 + 1 := hl2
    clear hr1 hll hsh
    generalize l1.take (l1.length - 1) = l2 at *
    generalize hM : l.length + 1 = M at *
    clear hl2
    rw [hm] at HR HBG hbig hc1 ⊢
    have g1 : 0 < M := by omega
    have g3 : ((M : Int) + 1 == 1) = false := beq_eq_false_iff_ne.2 (by omega)
    have HL := Aside0.mk hlen
    have hM2 : M ≤ 1000000000 := by omega
    clear hlen hm hM
    by_cases hf : a0.toList = fileL
    · have f1 : (a0.toList == ([102, 105, 108, 101] : List UInt8)) = true := beq_iff_eq.2 hf
      go_enter Try.func11, Try.ntmps11
      go_wp2_with (go_at_call 27; refine (clone_calls' (some ad) M M l2 _ HL.out (HC.out _ (Below.refl _ _)) hM2).mono ?_; rintro e w1 ⟨v, rfl, hv, hb⟩)
      go_ret
      exact ⟨v, rfl, hv, hb⟩
    · have f1 : (a0.toList == ([102, 105, 108, 101] : List UInt8)) = false := beq_eq_false_iff_ne.2 hf
      go_enter Try.func11, Try.ntmps11
      go_wp2_with (go_at_call 27; refine (clone_calls' (some ad) M M l2 _ HL.out (HC.out _ (Below.refl _ _)) hM2).mono ?_; rintro e w1 ⟨v, rfl, hv, hb⟩)
      go_ret
      exact ⟨v, rfl, hv, hb⟩
theorem path_Shorten.calls (a0 : ByteArray) (A1 : Option Addr) (c1 : Nat) (l1 r : List ByteArray) (w : World) (hr1 : Kd.C Kd.string w A1 l1.length l1) (hc1 : l1.length ≤ c1) (h : path_Shorten.f a0 l1 = some r) :
    Calls Try.prog 11 #[.string a0, .slice A1 l1.length c1] w fun e w' => ∃ v0_, e = .returned v0_ ∧ Kd.R Kd.string 9 w' w.heap.size (fun _ => True) v0_ r ∧ Below w.heap.size w w' := by
  unfold path_Shorten.f at h
  split at h
  · rename_i hh
    obtain rfl := Option.some.inj h
    exact shorten_walk a0 A1 c1 l1 w hr1 hc1 hh
  · cases h
end Go.Proofs.Ytedkaedeahobjaa
