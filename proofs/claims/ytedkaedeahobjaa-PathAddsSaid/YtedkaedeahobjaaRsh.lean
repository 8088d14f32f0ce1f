/- The reference's Shorten, walked for a path that is only read: its result is the path itself, or a part of it. -/
import Derived.Test.YtedkaedeahobjaaTell
namespace Go.Proofs.Ytedkaedeahobjaa.PRad
open Go.RowKit Go.Proofs.Ytedkaedeahobjaa.PPth Go.Proofs.YtedkaedeahobjaaW.PrintWords Go.Proofs.YtedkaedeahobjaaW.PrintLast Go.Proofs.YtedkaedeahobjaaW.PrintMore
attribute [local go_sem] max2_int min2_int max_two min_two max_three min_three max_four min_four   -- for this text's walks alone
set_option linter.unusedVariables false
set_option linter.unusedSimpArgs false

def gatepostref11_Shorten.f (a0 : ByteArray) (l1 : List ByteArray) : Option (List ByteArray) := if l1.length ≤ 1000000000 then some (shL a0 l1) else none
theorem rdrv_calls (a0 : ByteArray) (r : Bool) (w : World) (h : drv a0 = r) : Calls Try.prog 18 #[.string a0] w fun e w' => e = .returned (.bool r) ∧ Drawn0 w w' := by
  subst h
  exact gatepostref11_Drive.calls a0 (drv a0) w (rdrive_f a0)
theorem mx0 (n : Nat) : mx ((n : Int) - 1) 0 = ((n - 1 : Nat) : Int) := by unfold mx; split <;> omega
set_option maxHeartbeats 4000000 in
set_option maxRecDepth 100000 in
theorem rshorten_walk (a0 : ByteArray) (A1 : Option Addr) (c1 : Nat) (l1 : List ByteArray) (w : World) (hr1 : Kd.C Kd.string w A1 l1.length l1) (hc1 : l1.length ≤ c1) (hbig : l1.length ≤ 1000000000) :
    Calls Try.prog 22 #[.string a0, .slice A1 l1.length c1] w fun e w' => ∃ A c, e = .returned (.slice A (shL a0 l1).length c) ∧ (shL a0 l1).length ≤ c ∧ Kd.C Kd.string w' A (shL a0 l1).length (shL a0 l1) ∧ Below w.heap.size w w' := by
  have HR := Aside0.mk hr1
  have HBG := Aside0.mk hbig
  rcases l1 with _ | ⟨x, _ | ⟨y, l⟩⟩
  · have hsh : shL a0 [] = [] := rfl
    rw [hsh]
    clear hr1 hbig
    by_cases hf : a0.toList = fileL
    · have f1 : (a0.toList == ([102, 105, 108, 101] : List UInt8)) = true := beq_iff_eq.2 hf
      go_enter Try.func22, Try.ntmps22
      go_wp2
      go_ret
      exact ⟨_, _, rfl, Nat.zero_le _, C_zero _ _, Below.refl _ _⟩
    · have f1 : (a0.toList == ([102, 105, 108, 101] : List UInt8)) = false := beq_eq_false_iff_ne.2 hf
      go_enter Try.func22, Try.ntmps22
      go_wp2
      go_ret
      exact ⟨_, _, rfl, Nat.zero_le _, C_zero _ _, Below.refl _ _⟩
  · obtain ⟨ad, rfl, hcell⟩ := (Kd.reads_of_C (d := ByteArray.empty) hr1).2.2 (by simp)
    have k0 : w.cell? ad = some (.string x) := by have := hcell 0 (by simp); rwa [Addr.add_zero'] at this
    clear hr1 hbig hcell
    by_cases hf : a0.toList = fileL
    · have f1 : (a0.toList == ([102, 105, 108, 101] : List UInt8)) = true := beq_iff_eq.2 hf
      by_cases hd : drv x = true
      · have hsz : x.size = 2 := (of_decide_eq_true hd).1
        have hx1 : (1 : Int) < (x.size : Int) := by omega
        have hx2 : 1 < x.size := by omega
        by_cases h58 : bt x 1 = 58
        · have hsh : shL a0 [x] = [x] := by unfold shL stays; rw [if_pos (decide_eq_true (.inr ⟨hf, rfl, hd, h58⟩))]
          have e0 : ∀ h, ((x[1]'h).toNat : Int) = 58 := fun h => (bt_at x 1 h).trans h58
          rw [hsh]
          go_enter Try.func22, Try.ntmps22
          go_wp2_with (go_at_call 18; refine (rdrv_calls x true _ hd).mono ?_; rintro e w' ⟨rfl, ⟨nd, rfl⟩⟩)
          go_ret
          exact ⟨_, _, rfl, by simpa using hc1, Kd.C_drewN HR.out _, pw_below_drewN (Below.refl _ w) nd⟩
        · have hsh : shL a0 [x] = [] := by unfold shL stays; rw [if_neg (by rw [decide_eq_false (fun h => h.elim (fun h => by simp at h) (fun h => h58 h.2.2.2))]; decide)]; rfl
          have e0 : ∀ h, ((x[1]'h).toNat : Int) = bt x 1 := fun h => bt_at x 1 h
          rw [hsh]
          have b58 : (bt x 1 == 58) = false := beq_eq_false_iff_ne.2 h58
          generalize bt x 1 = z at *
          go_enter Try.func22, Try.ntmps22
          go_wp2_with (go_at_call 18; refine (rdrv_calls x true _ hd).mono ?_; rintro e w' ⟨rfl, ⟨nd, rfl⟩⟩)
          go_ret
          exact ⟨_, _, rfl, Nat.zero_le _, C_zero _ _, pw_below_drewN (Below.refl _ w) nd⟩
      · have hd' := Bool.eq_false_iff.2 hd
        have hsh : shL a0 [x] = [] := by unfold shL stays; rw [if_neg (by rw [decide_eq_false (fun h => h.elim (fun h => by simp at h) (fun h => hd h.2.2.1))]; decide)]; rfl
        rw [hsh]
        go_enter Try.func22, Try.ntmps22
        go_wp2_with (go_at_call 18; refine (rdrv_calls x false _ hd').mono ?_; rintro e w' ⟨rfl, ⟨nd, rfl⟩⟩)
        go_ret
        exact ⟨_, _, rfl, Nat.zero_le _, C_zero _ _, pw_below_drewN (Below.refl _ w) nd⟩
    · have f1 : (a0.toList == ([102, 105, 108, 101] : List UInt8)) = false := beq_eq_false_iff_ne.2 hf
      have hsh : shL a0 [x] = [] := by unfold shL stays; rw [if_neg (by rw [decide_eq_false (fun h => h.elim (fun h => by simp at h) (fun h => hf h.1))]; decide)]; rfl
      rw [hsh]
      go_enter Try.func22, Try.ntmps22
      go_wp2
      go_ret
      exact ⟨_, _, rfl, Nat.zero_le _, C_zero _ _, Below.refl _ _⟩
  · have hl2 : (x :: y :: l).length = l.length + 1 + 1 := rfl
    generalize hll : x :: y :: l = l1 at *
    obtain ⟨ad, rfl, _⟩ := (Kd.reads_of_C (d := ByteArray.empty) hr1).2.2 (by omega)
    have hsh : shL a0 l1 = l1.take (l1.length - 1) := by unfold shL stays; rw [if_neg (by rw [decide_eq_false (by omega)]; decide)]
    rw [hsh]
    have HC := Aside0.mk (C_take HR.out (l1.length - 1))
    have hlen : (l1.take (l1.length - 1)).length = l.length + 1 := by rw [List.length_take]; omega
    have hm : l1.length = l.length + 1 + 1 := hl2
    clear hr1 hll hsh
    generalize l1.take (l1.length - 1) = l2 at *
    generalize hM : l.length + 1 = M at *
    clear hl2
    rw [hm] at HR HBG hbig hc1 ⊢
    have g1 : 0 < M := by omega
    have g3 : ((M : Int) + 1 == 1) = false := beq_eq_false_iff_ne.2 (by omega)
    have HL := Aside0.mk hlen
    have HC1 := Aside0.mk hc1
    have hM2 : M ≤ 1000000000 := by omega
    rw [hlen]
    rw [hlen] at HC
    clear hlen hm hM
    by_cases hf : a0.toList = fileL
    · have f1 : (a0.toList == ([102, 105, 108, 101] : List UInt8)) = true := beq_iff_eq.2 hf
      go_enter Try.func22, Try.ntmps22
      go_wp2
      go_ret
      exact ⟨_, _, rfl, by omega, HC.out, Below.refl _ _⟩
    · have f1 : (a0.toList == ([102, 105, 108, 101] : List UInt8)) = false := beq_eq_false_iff_ne.2 hf
      go_enter Try.func22, Try.ntmps22
      go_wp2
      go_ret
      exact ⟨_, _, rfl, by omega, HC.out, Below.refl _ _⟩
theorem gatepostref11_Shorten.calls (a0 : ByteArray) (A1 : Option Addr) (c1 : Nat) (l1 r : List ByteArray) (w : World) (hr1 : Kd.C Kd.string w A1 l1.length l1) (hc1 : l1.length ≤ c1) (h : gatepostref11_Shorten.f a0 l1 = some r) :
    Calls Try.prog 22 #[.string a0, .slice A1 l1.length c1] w fun e w' => ∃ A c, e = .returned (.slice A r.length c) ∧ r.length ≤ c ∧ Kd.C Kd.string w' A r.length r ∧ Below w.heap.size w w' := by
  unfold gatepostref11_Shorten.f at h
  split at h
  · rename_i hh
    obtain rfl := Option.some.inj h
    exact rshorten_walk a0 A1 c1 l1 w hr1 hc1 hh
  · cases h
end Go.Proofs.Ytedkaedeahobjaa.PRad
