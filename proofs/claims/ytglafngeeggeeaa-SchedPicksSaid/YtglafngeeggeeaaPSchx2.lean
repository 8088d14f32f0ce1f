/- Proved here: that functions of the program come to what plain Lean functions say, and (where it stands) the row of a law. No condition beyond that of the rows. Laid by a program of this session (wip/printgiven.py) out of the print of the translation. -/
import Derived.Test.YtglafngeeggeeaaPSchx0
import Derived.Test.YtglafngeeggeeaaPSchx1
import Derived.Test.YtglafngeeggeeaaOrder
namespace Go.Proofs.Ytglafngeeggeeaa.PSch
open Go.RowKit Go.Proofs.YtglafngeeggeeaaW.PrintWords Go.Proofs.YtglafngeeggeeaaW.PrintLast Go.Proofs.YtglafngeeggeeaaW.PrintMore
attribute [local go_sem] max2_int min2_int max_two min_two max_three min_three max_four min_four   -- for this text's walks alone
set_option linter.unusedVariables false
set_option linter.unusedSimpArgs false

attribute [local go_sem high] eqA37
/-! ### sched_May: function 13 -/
mutual
def sched_May.l0 : Nat → List (List Int) → Int → Int → Option (Bool)
  | 0, _, _, _ => none
  | k + 1, x8, x9, x10 => if x10 < x9 then (if 0 ≤ x10 then (if x10 < (x8.length : Int) then (sched_May.l1 k 0 x8 x9 x10 (rd_L1 x8 x10) ((rd_L1 x8 x10).length : Int) 0) else (none)) else (none)) else (some true)
def sched_May.l1 : Nat → Int → List (List Int) → Int → Int → List Int → Int → Int → Option (Bool)
  | 0, _, _, _, _, _, _, _ => none
  | k + 1, x5, x8, x9, x10, x14, x15, x16 => if x16 < x15 then (if 0 ≤ x16 then (if x16 < (x14.length : Int) then (if (rd x14 x16) = 0 then (sched_May.l1 k x5 x8 x9 x10 x14 x15 (wrap64 (x16 + 1))) else (if (rd x14 x16) > 0 then (sched_May.j2 k x5 (rd x14 x16) x8 x9 x10 x14 x15 x16 (x5 == 0)) else (sched_May.j2 k x5 (rd x14 x16) x8 x9 x10 x14 x15 x16 false))) else (none)) else (none)) else (if x5 = 0 then (sched_May.l0 k x8 x9 (wrap64 (x10 + 1))) else (some false))
def sched_May.j2 : Nat → Int → Int → List (List Int) → Int → Int → List Int → Int → Int → Bool → Option (Bool)
  | 0, _, _, _, _, _, _, _, _, _ => none
  | k + 1, x5, x7, x8, x9, x10, x14, x15, x16, x23 => if x23 = true then (sched_May.l1 k x7 x8 x9 x10 x14 x15 (wrap64 (x16 + 1))) else (if x7 < 0 then (if x5 = (wrap64 (-x7)) then (sched_May.l1 k 0 x8 x9 x10 x14 x15 (wrap64 (x16 + 1))) else (some false)) else (some false))
end
def sched_May.f (k : Nat) (l0 : List (List Int)) : Option (Bool) := sched_May.l0 k l0 (l0.length : Int) 0
theorem sched_May.mono_l : ∀ k, (∀ y0 y1 y2, LeO (sched_May.l0 k y0 y1 y2) (sched_May.l0 (k + 1) y0 y1 y2)) ∧ (∀ y0 y1 y2 y3 y4 y5 y6, LeO (sched_May.l1 k y0 y1 y2 y3 y4 y5 y6) (sched_May.l1 (k + 1) y0 y1 y2 y3 y4 y5 y6)) ∧ (∀ y0 y1 y2 y3 y4 y5 y6 y7 y8, LeO (sched_May.j2 k y0 y1 y2 y3 y4 y5 y6 y7 y8) (sched_May.j2 (k + 1) y0 y1 y2 y3 y4 y5 y6 y7 y8))
  | 0 => ⟨fun _ _ _ r h => by simp [sched_May.l0] at h, fun _ _ _ _ _ _ _ r h => by simp [sched_May.l1] at h, fun _ _ _ _ _ _ _ _ _ r h => by simp [sched_May.j2] at h⟩
  | k + 1 => by
    obtain ⟨ih0, ih1, ih2⟩ := sched_May.mono_l k
    refine ⟨?_, ?_, ?_⟩
    · intro y0 y1 y2
      unfold sched_May.l0
      repeat' first
      | (with_reducible exact ih0 _ _ _)
      | (with_reducible exact ih1 _ _ _ _ _ _ _)
      | (with_reducible exact ih2 _ _ _ _ _ _ _ _ _)
      | (with_reducible exact LeO.refl _)
      | (with_reducible exact LeO.none _)
      | (with_reducible refine LeO.ite ?_ ?_)
      | (with_reducible refine LeO.bind ?_ (fun _ => ?_))
      | exact ih0 _ _ _
      | exact ih1 _ _ _ _ _ _ _
      | exact ih2 _ _ _ _ _ _ _ _ _
      | exact LeO.none _
      | refine LeO.ite ?_ ?_
      | refine LeO.bind ?_ (fun _ => ?_)
    · intro y0 y1 y2 y3 y4 y5 y6
      unfold sched_May.l1
      repeat' first
      | (with_reducible exact ih0 _ _ _)
      | (with_reducible exact ih1 _ _ _ _ _ _ _)
      | (with_reducible exact ih2 _ _ _ _ _ _ _ _ _)
      | (with_reducible exact LeO.refl _)
      | (with_reducible exact LeO.none _)
      | (with_reducible refine LeO.ite ?_ ?_)
      | (with_reducible refine LeO.bind ?_ (fun _ => ?_))
      | exact ih0 _ _ _
      | exact ih1 _ _ _ _ _ _ _
      | exact ih2 _ _ _ _ _ _ _ _ _
      | exact LeO.none _
      | refine LeO.ite ?_ ?_
      | refine LeO.bind ?_ (fun _ => ?_)
    · intro y0 y1 y2 y3 y4 y5 y6 y7 y8
      unfold sched_May.j2
      repeat' first
      | (with_reducible exact ih0 _ _ _)
      | (with_reducible exact ih1 _ _ _ _ _ _ _)
      | (with_reducible exact ih2 _ _ _ _ _ _ _ _ _)
      | (with_reducible exact LeO.refl _)
      | (with_reducible exact LeO.none _)
      | (with_reducible refine LeO.ite ?_ ?_)
      | (with_reducible refine LeO.bind ?_ (fun _ => ?_))
      | exact ih0 _ _ _
      | exact ih1 _ _ _ _ _ _ _
      | exact ih2 _ _ _ _ _ _ _ _ _
      | exact LeO.none _
      | refine LeO.ite ?_ ?_
      | refine LeO.bind ?_ (fun _ => ?_)
theorem sched_May.mono : ∀ a0 k, LeO (sched_May.f k a0) (sched_May.f (k + 1) a0) := by
  intro a0 k
  obtain ⟨ih0, ih1, ih2⟩ := sched_May.mono_l k
  unfold sched_May.f
  repeat' first
      | (with_reducible exact ih0 _ _ _)
      | (with_reducible exact ih1 _ _ _ _ _ _ _)
      | (with_reducible exact ih2 _ _ _ _ _ _ _ _ _)
      | (with_reducible exact LeO.refl _)
      | (with_reducible exact LeO.none _)
      | (with_reducible refine LeO.ite ?_ ?_)
      | (with_reducible refine LeO.bind ?_ (fun _ => ?_))
      | exact ih0 _ _ _
      | exact ih1 _ _ _ _ _ _ _
      | exact ih2 _ _ _ _ _ _ _ _ _
      | exact LeO.none _
      | refine LeO.ite ?_ ?_
      | refine LeO.bind ?_ (fun _ => ?_)
set_option maxHeartbeats 8000000 in
set_option maxRecDepth 100000 in
theorem sched_May.calls (k : Nat) (A0 : Option Addr) (c0 : Nat) (l0 : List (List Int)) (r : Bool) (w : World) (hr0 : Kd.C (Kd.slice 3 (Kd.int .i64)) w A0 l0.length l0) (hc0 : l0.length ≤ c0) (h : sched_May.f k l0 = some r) :
    Calls Try.prog 13 #[.slice A0 l0.length c0] w fun e w' => e = .returned (.bool r) ∧ Drawn0 w w' := by
  have HR0 := Aside0.mk hr0
  have HC0 := Aside0.mk hc0
  clear hr0 hc0
  have H : (sched_May.l0 k l0 (l0.length : Int) 0) = some r := h
  clear h
  have H' := Aside0.mk H
  clear H
  go_enter Try.func13, Try.ntmps13
  go_wp2
  go_loopg [10] k (fun kq v10 w' => ∃ (x10_1 : Int), v10 = .int .i64 x10_1 ∧ Aside0 (sched_May.l0 kq l0 (l0.length : Int) x10_1 = some r) ∧ Aside0 (kq ≤ k) ∧ Drawn0 w w')
  case atStart => exact ⟨(0), (by first | rfl | (simp; done) | (simp [*]; done)), H', ⟨Nat.le_refl _⟩, by repeat (first | exact Drawn0.refl _ | apply Drawn0.step)⟩
  case round =>
    clear H'
    try clear c1
    obtain ⟨x10_1, rfl, HA, HK1, ⟨m1, rfl⟩⟩ := hrel
    cases gk with
    | zero => exact absurd HA.out (by simp [sched_May.l0])
    | succ k1 =>
      have H := HA.out
      clear HA
      simp only [sched_May.l0] at H
      by_cases c2 : x10_1 < (l0.length : Int)
      · rw [if_pos c2] at H
        have c2b0 : decide (x10_1 < (l0.length : Int)) = true := decide_eq_true c2
        clear c2
        by_cases c3 : 0 ≤ x10_1
        · rw [if_pos c3] at H
          have c3b0 : decide (0 ≤ x10_1) = true := decide_eq_true c3
          clear c3
          by_cases c4 : x10_1 < (l0.length : Int)
          · rw [if_pos c4] at H
            have c4b0 : decide (x10_1 < (l0.length : Int)) = true := decide_eq_true c4
            clear c4
            have H' := Aside0.mk H
            clear H
            have p101 : 0 ≤ (x10_1 : Int) := of_decide_eq_true (by first | (with_reducible assumption) | assumption)
            have q101 : x10_1 < (l0.length : Int) := of_decide_eq_true (by first | (with_reducible assumption) | assumption)
            obtain ⟨ad101, A101_0, c101_0, e101, hx101_0, hl101_0, hi101_0⟩ := at_L1 HR0.out x10_1 p101 q101
            cases e101
            have HR101_0 := Aside0.mk hi101_0
            have HC101_0 := Aside0.mk hl101_0
            clear hi101_0 hl101_0
            replace p101 := eq_true p101
            replace q101 := eq_true q101
            go_wp2
            go_loopg [5, 16] k1 (fun kq v5 v16 w' => ∃ (x5_2 : Int) (x16_2 : Int), v5 = .int .i64 x5_2 ∧ v16 = .int .i64 x16_2 ∧ Aside0 (sched_May.l1 kq x5_2 l0 (l0.length : Int) x10_1 (rd_L1 l0 x10_1) ((rd_L1 l0 x10_1).length : Int) x16_2 = some r) ∧ Aside0 (kq ≤ k1) ∧ Drawn0 w w')
            case atStart => exact ⟨(0), (0), (by first | rfl | (simp; done) | (simp [*]; done)), (by first | rfl | (simp; done) | (simp [*]; done)), H', ⟨Nat.le_refl _⟩, by repeat (first | exact Drawn0.refl _ | apply Drawn0.step)⟩
            case round =>
              clear H'
              try clear c1
              try clear p1
              try clear q1
              try clear hx1
              try clear c2
              try clear c2b0
              try clear p2
              try clear c3
              try clear c3b0
              try clear c4
              try clear c4b0
              try clear hx101_0
              try clear p101
              try clear q101
              obtain ⟨x5_2, x16_2, rfl, rfl, HA, HK2, ⟨m2, rfl⟩⟩ := hrel
              cases gk with
              | zero => exact absurd HA.out (by simp [sched_May.l1])
              | succ k2 =>
                have H := HA.out
                clear HA
                simp only [sched_May.l1] at H
                by_cases c5 : x16_2 < ((rd_L1 l0 x10_1).length : Int)
                · rw [if_pos c5] at H
                  have c5b0 : decide (x16_2 < ((rd_L1 l0 x10_1).length : Int)) = true := decide_eq_true c5
                  clear c5
                  by_cases c6 : 0 ≤ x16_2
                  · rw [if_pos c6] at H
                    have c6b0 : decide (0 ≤ x16_2) = true := decide_eq_true c6
                    clear c6
                    by_cases c7 : x16_2 < ((rd_L1 l0 x10_1).length : Int)
                    · rw [if_pos c7] at H
                      have c7b0 : decide (x16_2 < ((rd_L1 l0 x10_1).length : Int)) = true := decide_eq_true c7
                      clear c7
                      by_cases c8 : (rd (rd_L1 l0 x10_1) x16_2) = 0
                      · rw [if_pos c8] at H
                        have c8b0 : ((rd (rd_L1 l0 x10_1) x16_2) == 0) = true := beq_iff_eq.mpr c8
                        have c8b1 : ((rd (rd_L1 l0 x10_1) x16_2) != 0) = false := bne_eq_false_iff_eq.mpr c8
                        clear c8
                        have H' := Aside0.mk H
                        clear H
                        have p102 : 0 ≤ (x16_2 : Int) := of_decide_eq_true (by first | (with_reducible assumption) | assumption)
                        have q102 : x16_2 < ((rd_L1 l0 x10_1).length : Int) := of_decide_eq_true (by first | (with_reducible assumption) | assumption)
                        obtain ⟨ad102, e102, hx102_0⟩ := Kd.at_int HR101_0.out x16_2 p102 q102
                        cases e102
                        replace p102 := eq_true p102
                        replace q102 := eq_true q102
                        go_wp2
                        go_roundg k2
                        case measure => have := HK1.out; have := HK2.out; omega
                        case rel => exact ⟨(x5_2), (wrap64 (x16_2 + 1)), (by first | rfl | (simp; done) | (simp [*]; done)), (by first | rfl | (simp; done) | (simp [*]; done)), H', ⟨by have := HK1.out; have := HK2.out; omega⟩, by repeat (first | exact Drawn0.refl _ | apply Drawn0.step)⟩
                      · rw [if_neg c8] at H
                        have c8b0 : ((rd (rd_L1 l0 x10_1) x16_2) == 0) = false := beq_eq_false_iff_ne.mpr c8
                        have c8b1 : ((rd (rd_L1 l0 x10_1) x16_2) != 0) = true := bne_iff_ne.mpr c8
                        have HC9 := Aside0.mk H
                        clear H
                        have p102 : 0 ≤ (x16_2 : Int) := of_decide_eq_true (by first | (with_reducible assumption) | assumption)
                        have q102 : x16_2 < ((rd_L1 l0 x10_1).length : Int) := of_decide_eq_true (by first | (with_reducible assumption) | assumption)
                        obtain ⟨ad102, e102, hx102_0⟩ := Kd.at_int HR101_0.out x16_2 p102 q102
                        cases e102
                        replace p102 := eq_true p102
                        replace q102 := eq_true q102
                        go_upto_region 10 with (fail)
                        go_cut [23] (fun v23 wc => ∃ (kq : Nat) (x23_8 : Bool), v23 = .bool x23_8 ∧ Aside0 (sched_May.j2 kq x5_2 (rd (rd_L1 l0 x10_1) x16_2) l0 (l0.length : Int) x10_1 (rd_L1 l0 x10_1) ((rd_L1 l0 x10_1).length : Int) x16_2 x23_8 = some r) ∧ Aside0 (kq ≤ k2) ∧ Drawn0 w wc)
                        case first =>
                          have H := HC9.out
                          clear HC9
                          by_cases c10 : (rd (rd_L1 l0 x10_1) x16_2) > 0
                          · rw [if_pos c10] at H
                            have c10b0 : decide (0 < (rd (rd_L1 l0 x10_1) x16_2)) = true := decide_eq_true c10
                            clear c10
                            (first | rw [c10b0] | rw [c10b1] | (simp only [i64_w, i32_w]; rw [c10b0]) | skip)
                            have H' := Aside0.mk H
                            clear H
                            go_wp2
                            go_meet
                            case rel => exact ⟨_, ((x5_2 == 0)), (by first | rfl | (simp; done) | (simp [*]; done)), H', ⟨by have := HK1.out; have := HK2.out; first | omega | exact Nat.le_refl _⟩, by repeat (first | exact Drawn0.refl _ | apply Drawn0.step)⟩
                          · rw [if_neg c10] at H
                            have c10b0 : decide (0 < (rd (rd_L1 l0 x10_1) x16_2)) = false := decide_eq_false c10
                            clear c10
                            (first | rw [c10b0] | rw [c10b1] | (simp only [i64_w, i32_w]; rw [c10b0]) | skip)
                            have H' := Aside0.mk H
                            clear H
                            go_wp2
                            go_meet
                            case rel => exact ⟨_, (false), (by first | rfl | (simp; done) | (simp [*]; done)), H', ⟨by have := HK1.out; have := HK2.out; first | omega | exact Nat.le_refl _⟩, by repeat (first | exact Drawn0.refl _ | apply Drawn0.step)⟩
                        case rest =>
                          clear HC9
                          try clear c1
                          try clear p1
                          try clear q1
                          try clear hx1
                          try clear c2
                          try clear c2b0
                          try clear p2
                          try clear c3
                          try clear c3b0
                          try clear c4
                          try clear c4b0
                          try clear c5
                          try clear c5b0
                          try clear c6
                          try clear c6b0
                          try clear p6
                          try clear c7
                          try clear c7b0
                          try clear c8
                          try clear c8b0
                          try clear c8b1
                          try clear c10
                          try clear c10b0
                          try clear p10
                          try clear q10
                          try clear hx10
                          try clear hx101_0
                          try clear hx102_0
                          try clear p1
                          try clear p101
                          try clear p102
                          try clear p2
                          try clear q1
                          try clear q101
                          try clear q102
                          obtain ⟨kq, x23_8, rfl, HA, HJ8, ⟨mc8, rfl⟩⟩ := hcut
                          cases kq with
                          | zero => exact absurd HA.out (by simp [sched_May.j2])
                          | succ kj8 =>
                            have H := HA.out
                            clear HA
                            simp only [sched_May.j2] at H
                            by_cases c11 : x23_8 = true
                            · subst c11
                              have H1 : (sched_May.l1 kj8 (rd (rd_L1 l0 x10_1) x16_2) l0 (l0.length : Int) x10_1 (rd_L1 l0 x10_1) ((rd_L1 l0 x10_1).length : Int) (wrap64 (x16_2 + 1))) = some r := by rw [if_pos rfl] at H; exact H
                              clear H
                              have H := H1
                              clear H1
                              have H' := Aside0.mk H
                              clear H
                              go_wp2
                              go_roundg kj8
                              case measure => have := HK1.out; have := HK2.out; have := HJ8.out; omega
                              case rel => exact ⟨((rd (rd_L1 l0 x10_1) x16_2)), (wrap64 (x16_2 + 1)), (by first | rfl | (simp; done) | (simp [*]; done)), (by first | rfl | (simp; done) | (simp [*]; done)), H', ⟨by have := HK1.out; have := HK2.out; have := HJ8.out; omega⟩, by repeat (first | exact Drawn0.refl _ | apply Drawn0.step)⟩
                            · replace c11 := Bool.eq_false_iff.mpr c11
                              subst c11
                              have H1 : (if (rd (rd_L1 l0 x10_1) x16_2) < 0 then (if x5_2 = (wrap64 (-(rd (rd_L1 l0 x10_1) x16_2))) then (sched_May.l1 kj8 0 l0 (l0.length : Int) x10_1 (rd_L1 l0 x10_1) ((rd_L1 l0 x10_1).length : Int) (wrap64 (x16_2 + 1))) else (some false)) else (some false)) = some r := by rw [if_neg (show ¬ (false = true) by decide)] at H; exact H
                              clear H
                              have H := H1
                              clear H1
                              by_cases c12 : (rd (rd_L1 l0 x10_1) x16_2) < 0
                              · rw [if_pos c12] at H
                                have c12b0 : decide ((rd (rd_L1 l0 x10_1) x16_2) < 0) = true := decide_eq_true c12
                                clear c12
                                by_cases c13 : x5_2 = (wrap64 (-(rd (rd_L1 l0 x10_1) x16_2)))
                                · rw [if_pos c13] at H
                                  have c13b0 : (x5_2 == (wrap64 (-(rd (rd_L1 l0 x10_1) x16_2)))) = true := beq_iff_eq.mpr c13
                                  have c13b1 : (x5_2 != (wrap64 (-(rd (rd_L1 l0 x10_1) x16_2)))) = false := bne_eq_false_iff_eq.mpr c13
                                  clear c13
                                  have H' := Aside0.mk H
                                  clear H
                                  go_wp2
                                  go_roundg kj8
                                  case measure => have := HK1.out; have := HK2.out; have := HJ8.out; omega
                                  case rel => exact ⟨(0), (wrap64 (x16_2 + 1)), (by first | rfl | (simp; done) | (simp [*]; done)), (by first | rfl | (simp; done) | (simp [*]; done)), H', ⟨by have := HK1.out; have := HK2.out; have := HJ8.out; omega⟩, by repeat (first | exact Drawn0.refl _ | apply Drawn0.step)⟩
                                · rw [if_neg c13] at H
                                  have c13b0 : (x5_2 == (wrap64 (-(rd (rd_L1 l0 x10_1) x16_2)))) = false := beq_eq_false_iff_ne.mpr c13
                                  have c13b1 : (x5_2 != (wrap64 (-(rd (rd_L1 l0 x10_1) x16_2)))) = true := bne_iff_ne.mpr c13
                                  obtain rfl := Option.some.inj H
                                  go_wp2
                                  go_ret
                                  exact ⟨by first | rfl | (simp; done) | (simp [*]; done), by repeat (first | exact Drawn0.refl _ | apply Drawn0.step)⟩
                              · rw [if_neg c12] at H
                                have c12b0 : decide ((rd (rd_L1 l0 x10_1) x16_2) < 0) = false := decide_eq_false c12
                                clear c12
                                obtain rfl := Option.some.inj H
                                go_wp2
                                go_ret
                                exact ⟨by first | rfl | (simp; done) | (simp [*]; done), by repeat (first | exact Drawn0.refl _ | apply Drawn0.step)⟩
                    · rw [if_neg c7] at H
                      exact absurd H (by simp)
                  · rw [if_neg c6] at H
                    exact absurd H (by simp)
                · rw [if_neg c5] at H
                  have c5b0 : decide (x16_2 < ((rd_L1 l0 x10_1).length : Int)) = false := decide_eq_false c5
                  clear c5
                  by_cases c14 : x5_2 = 0
                  · rw [if_pos c14] at H
                    have c14b0 : (x5_2 == 0) = true := beq_iff_eq.mpr c14
                    have c14b1 : (x5_2 != 0) = false := bne_eq_false_iff_eq.mpr c14
                    clear c14
                    have H' := Aside0.mk H
                    clear H
                    go_wp2
                    go_roundg k2
                    case measure => have := HK1.out; have := HK2.out; omega
                    case rel => exact ⟨(wrap64 (x10_1 + 1)), (by first | rfl | (simp; done) | (simp [*]; done)), H', ⟨by have := HK1.out; have := HK2.out; omega⟩, by repeat (first | exact Drawn0.refl _ | apply Drawn0.step)⟩
                  · rw [if_neg c14] at H
                    have c14b0 : (x5_2 == 0) = false := beq_eq_false_iff_ne.mpr c14
                    have c14b1 : (x5_2 != 0) = true := bne_iff_ne.mpr c14
                    obtain rfl := Option.some.inj H
                    go_wp2
                    go_ret
                    exact ⟨by first | rfl | (simp; done) | (simp [*]; done), by repeat (first | exact Drawn0.refl _ | apply Drawn0.step)⟩
          · rw [if_neg c4] at H
            exact absurd H (by simp)
        · rw [if_neg c3] at H
          exact absurd H (by simp)
      · rw [if_neg c2] at H
        have c2b0 : decide (x10_1 < (l0.length : Int)) = false := decide_eq_false c2
        clear c2
        obtain rfl := Option.some.inj H
        go_wp2
        go_ret
        exact ⟨by first | rfl | (simp; done) | (simp [*]; done), by repeat (first | exact Drawn0.refl _ | apply Drawn0.step)⟩

/-! ### sched_Steps: function 15 -/
def sched_Steps.l0 : Nat → Int → List (List Int) → Int → Int → Option (Int)
  | 0, _, _, _, _ => none
  | k + 1, x3, x6, x7, x8 => if x8 < x7 then (if 0 ≤ x8 then (if x8 < (x6.length : Int) then (sched_Steps.l0 k (wrap64 (x3 + ((rd_L1 x6 x8).length : Int))) x6 x7 (wrap64 (x8 + 1))) else (none)) else (none)) else (some x3)
def sched_Steps.f (k : Nat) (l0 : List (List Int)) : Option (Int) := sched_Steps.l0 k 0 l0 (l0.length : Int) 0
theorem sched_Steps.mono_l : ∀ k, (∀ y0 y1 y2 y3, LeO (sched_Steps.l0 k y0 y1 y2 y3) (sched_Steps.l0 (k + 1) y0 y1 y2 y3))
  | 0 => fun _ _ _ _ r h => by simp [sched_Steps.l0] at h
  | k + 1 => by
    have ih0 := sched_Steps.mono_l k
    · intro y0 y1 y2 y3
      unfold sched_Steps.l0
      repeat' first
      | (with_reducible exact ih0 _ _ _ _)
      | (with_reducible exact LeO.refl _)
      | (with_reducible exact LeO.none _)
      | (with_reducible refine LeO.ite ?_ ?_)
      | (with_reducible refine LeO.bind ?_ (fun _ => ?_))
      | exact ih0 _ _ _ _
      | exact LeO.none _
      | refine LeO.ite ?_ ?_
      | refine LeO.bind ?_ (fun _ => ?_)
theorem sched_Steps.mono : ∀ a0 k, LeO (sched_Steps.f k a0) (sched_Steps.f (k + 1) a0) := by
  intro a0 k
  have ih0 := sched_Steps.mono_l k
  unfold sched_Steps.f
  repeat' first
      | (with_reducible exact ih0 _ _ _ _)
      | (with_reducible exact LeO.refl _)
      | (with_reducible exact LeO.none _)
      | (with_reducible refine LeO.ite ?_ ?_)
      | (with_reducible refine LeO.bind ?_ (fun _ => ?_))
      | exact ih0 _ _ _ _
      | exact LeO.none _
      | refine LeO.ite ?_ ?_
      | refine LeO.bind ?_ (fun _ => ?_)
set_option maxHeartbeats 8000000 in
set_option maxRecDepth 100000 in
theorem sched_Steps.calls (k : Nat) (A0 : Option Addr) (c0 : Nat) (l0 : List (List Int)) (r : Int) (w : World) (hr0 : Kd.C (Kd.slice 3 (Kd.int .i64)) w A0 l0.length l0) (hc0 : l0.length ≤ c0) (h : sched_Steps.f k l0 = some r) :
    Calls Try.prog 15 #[.slice A0 l0.length c0] w fun e w' => e = .returned (.int .i64 r) ∧ Drawn0 w w' := by
  have HR0 := Aside0.mk hr0
  have HC0 := Aside0.mk hc0
  clear hr0 hc0
  have H : (sched_Steps.l0 k 0 l0 (l0.length : Int) 0) = some r := h
  clear h
  have H' := Aside0.mk H
  clear H
  go_enter Try.func15, Try.ntmps15
  go_wp2
  go_loopg [3, 8] k (fun kq v3 v8 w' => ∃ (x3_1 : Int) (x8_1 : Int), v3 = .int .i64 x3_1 ∧ v8 = .int .i64 x8_1 ∧ Aside0 (sched_Steps.l0 kq x3_1 l0 (l0.length : Int) x8_1 = some r) ∧ Aside0 (kq ≤ k) ∧ Drawn0 w w')
  case atStart => exact ⟨(0), (0), (by first | rfl | (simp; done) | (simp [*]; done)), (by first | rfl | (simp; done) | (simp [*]; done)), H', ⟨Nat.le_refl _⟩, by repeat (first | exact Drawn0.refl _ | apply Drawn0.step)⟩
  case round =>
    clear H'
    try clear c1
    obtain ⟨x3_1, x8_1, rfl, rfl, HA, HK1, ⟨m1, rfl⟩⟩ := hrel
    cases gk with
    | zero => exact absurd HA.out (by simp [sched_Steps.l0])
    | succ k1 =>
      have H := HA.out
      clear HA
      simp only [sched_Steps.l0] at H
      by_cases c2 : x8_1 < (l0.length : Int)
      · rw [if_pos c2] at H
        have c2b0 : decide (x8_1 < (l0.length : Int)) = true := decide_eq_true c2
        clear c2
        by_cases c3 : 0 ≤ x8_1
        · rw [if_pos c3] at H
          have c3b0 : decide (0 ≤ x8_1) = true := decide_eq_true c3
          clear c3
          by_cases c4 : x8_1 < (l0.length : Int)
          · rw [if_pos c4] at H
            have c4b0 : decide (x8_1 < (l0.length : Int)) = true := decide_eq_true c4
            clear c4
            have H' := Aside0.mk H
            clear H
            have p103 : 0 ≤ (x8_1 : Int) := of_decide_eq_true (by first | (with_reducible assumption) | assumption)
            have q103 : x8_1 < (l0.length : Int) := of_decide_eq_true (by first | (with_reducible assumption) | assumption)
            obtain ⟨ad103, A103_0, c103_0, e103, hx103_0, hl103_0, hi103_0⟩ := at_L1 HR0.out x8_1 p103 q103
            cases e103
            have HR103_0 := Aside0.mk hi103_0
            have HC103_0 := Aside0.mk hl103_0
            clear hi103_0 hl103_0
            replace p103 := eq_true p103
            replace q103 := eq_true q103
            go_wp2
            go_roundg k1
            case measure => have := HK1.out; omega
            case rel => exact ⟨(wrap64 (x3_1 + ((rd_L1 l0 x8_1).length : Int))), (wrap64 (x8_1 + 1)), (by first | rfl | (simp; done) | (simp [*]; done)), (by first | rfl | (simp; done) | (simp [*]; done)), H', ⟨by have := HK1.out; omega⟩, by repeat (first | exact Drawn0.refl _ | apply Drawn0.step)⟩
          · rw [if_neg c4] at H
            exact absurd H (by simp)
        · rw [if_neg c3] at H
          exact absurd H (by simp)
      · rw [if_neg c2] at H
        have c2b0 : decide (x8_1 < (l0.length : Int)) = false := decide_eq_false c2
        clear c2
        obtain rfl := Option.some.inj H
        go_wp2
        go_ret
        exact ⟨by first | rfl | (simp; done) | (simp [*]; done), by repeat (first | exact Drawn0.refl _ | apply Drawn0.step)⟩

/-! ### gatepostlaw22_awake: function 8 -/
def gatepostlaw22_awake.f (k : Nat)  : Option (Bool) := (some (([(([1, 0, (-1)] : List Int)), (([1, (-1)] : List Int))] : List (List Int)) : List (List Int))).bind fun y110 => ((sched_Order.f y110 (([0, 1, 1] : List Int))).bind fun t116 => (if (t116.length : Int) = 5 then (if 1 < (t116.length : Int) then (if (((rd_T37 t116 1).f0) == 0 && (((rd_T37 t116 1).f1) == 1)) = true then (if 2 < (t116.length : Int) then (if ((rd_T37 t116 2).f0) = 0 then (if 3 < (t116.length : Int) then (if (((rd_T37 t116 3).f0) == 1 && (((rd_T37 t116 3).f1) == 0)) = true then ((sched_May.f k y110).bind fun t122 => (if t122 = true then ((sched_May.f k (([(([1] : List Int))] : List (List Int)))).bind fun t129 => (if t129 = true then (some false) else ((sched_Steps.f k y110).bind fun t130 => (some (t130 == 5))))) else (some false))) else (some false)) else (none)) else (some false)) else (none)) else (some false)) else (none)) else (some false)))
theorem gatepostlaw22_awake.mono : ∀ k, LeO (gatepostlaw22_awake.f k ) (gatepostlaw22_awake.f (k + 1) ) := by
  intro  k
  unfold gatepostlaw22_awake.f
  repeat' first
      | (with_reducible exact sched_May.mono _ _)
      | (with_reducible exact sched_Steps.mono _ _)
      | (with_reducible exact LeO.refl _)
      | (with_reducible exact LeO.none _)
      | (with_reducible refine LeO.ite ?_ ?_)
      | (with_reducible refine LeO.bind ?_ (fun _ => ?_))
      | exact sched_May.mono _ _
      | exact sched_Steps.mono _ _
      | exact LeO.none _
      | refine LeO.ite ?_ ?_
      | refine LeO.bind ?_ (fun _ => ?_)
set_option maxHeartbeats 8000000 in
set_option maxRecDepth 100000 in
theorem gatepostlaw22_awake.calls (k : Nat)  (r : Bool) (w : World) (h : gatepostlaw22_awake.f k  = some r) :
    Calls Try.prog 8 #[] w fun e w' => e = .returned (.bool r) ∧ Below w.heap.size w w' := by
  have hu37 := Try.underlying37
  have HB := Aside0.mk (Below.refl w.heap.size w)
  have H : ((some (([(([1, 0, (-1)] : List Int)), (([1, (-1)] : List Int))] : List (List Int)) : List (List Int))).bind fun y110 => ((sched_Order.f y110 (([0, 1, 1] : List Int))).bind fun t116 => (if (t116.length : Int) = 5 then (if 1 < (t116.length : Int) then (if (((rd_T37 t116 1).f0) == 0 && (((rd_T37 t116 1).f1) == 1)) = true then (if 2 < (t116.length : Int) then (if ((rd_T37 t116 2).f0) = 0 then (if 3 < (t116.length : Int) then (if (((rd_T37 t116 3).f0) == 1 && (((rd_T37 t116 3).f1) == 0)) = true then ((sched_May.f k y110).bind fun t122 => (if t122 = true then ((sched_May.f k (([(([1] : List Int))] : List (List Int)))).bind fun t129 => (if t129 = true then (some false) else ((sched_Steps.f k y110).bind fun t130 => (some (t130 == 5))))) else (some false))) else (some false)) else (none)) else (some false)) else (none)) else (some false)) else (none)) else (some false)))) = some r := h
  clear h
  obtain ⟨y104, hy104⟩ : ∃ y_ : List Int, y_ = (([1, 0, (-1)] : List Int)) := ⟨_, rfl⟩
  replace H : ((some (([y104, (([1, (-1)] : List Int))] : List (List Int)) : List (List Int))).bind fun y110 => ((sched_Order.f y110 (([0, 1, 1] : List Int))).bind fun t116 => (if (t116.length : Int) = 5 then (if 1 < (t116.length : Int) then (if (((rd_T37 t116 1).f0) == 0 && (((rd_T37 t116 1).f1) == 1)) = true then (if 2 < (t116.length : Int) then (if ((rd_T37 t116 2).f0) = 0 then (if 3 < (t116.length : Int) then (if (((rd_T37 t116 3).f0) == 1 && (((rd_T37 t116 3).f1) == 0)) = true then ((sched_May.f k y110).bind fun t122 => (if t122 = true then ((sched_May.f k (([(([1] : List Int))] : List (List Int)))).bind fun t129 => (if t129 = true then (some false) else ((sched_Steps.f k y110).bind fun t130 => (some (t130 == 5))))) else (some false))) else (some false)) else (none)) else (some false)) else (none)) else (some false)) else (none)) else (some false)))) = some r := by first | (rw [hy104]; with_reducible exact H) | (have H2_ := (Option.bind_some _ _).symm.trans H; rw [hy104]; with_reducible exact H2_) | (have H2_ := (Option.bind_some _ _).symm.trans H; with_reducible exact H2_) | with_reducible exact H | (rw [hy104]; exact H) | exact H
  have Ny104 := Aside0.mk hy104
  clear hy104
  obtain ⟨y107, hy107⟩ : ∃ y_ : List Int, y_ = (([1, (-1)] : List Int)) := ⟨_, rfl⟩
  replace H : ((some (([y104, y107] : List (List Int)) : List (List Int))).bind fun y110 => ((sched_Order.f y110 (([0, 1, 1] : List Int))).bind fun t116 => (if (t116.length : Int) = 5 then (if 1 < (t116.length : Int) then (if (((rd_T37 t116 1).f0) == 0 && (((rd_T37 t116 1).f1) == 1)) = true then (if 2 < (t116.length : Int) then (if ((rd_T37 t116 2).f0) = 0 then (if 3 < (t116.length : Int) then (if (((rd_T37 t116 3).f0) == 1 && (((rd_T37 t116 3).f1) == 0)) = true then ((sched_May.f k y110).bind fun t122 => (if t122 = true then ((sched_May.f k (([(([1] : List Int))] : List (List Int)))).bind fun t129 => (if t129 = true then (some false) else ((sched_Steps.f k y110).bind fun t130 => (some (t130 == 5))))) else (some false))) else (some false)) else (none)) else (some false)) else (none)) else (some false)) else (none)) else (some false)))) = some r := by first | (rw [hy107]; with_reducible exact H) | (have H2_ := (Option.bind_some _ _).symm.trans H; rw [hy107]; with_reducible exact H2_) | (have H2_ := (Option.bind_some _ _).symm.trans H; with_reducible exact H2_) | with_reducible exact H | (rw [hy107]; exact H) | exact H
  have Ny107 := Aside0.mk hy107
  clear hy107
  obtain ⟨y110, hy110⟩ : ∃ y_ : List (List Int), y_ = (([y104, y107] : List (List Int))) := ⟨_, rfl⟩
  replace H : ((sched_Order.f y110 (([0, 1, 1] : List Int))).bind fun t116 => (if (t116.length : Int) = 5 then (if 1 < (t116.length : Int) then (if (((rd_T37 t116 1).f0) == 0 && (((rd_T37 t116 1).f1) == 1)) = true then (if 2 < (t116.length : Int) then (if ((rd_T37 t116 2).f0) = 0 then (if 3 < (t116.length : Int) then (if (((rd_T37 t116 3).f0) == 1 && (((rd_T37 t116 3).f1) == 0)) = true then ((sched_May.f k y110).bind fun t122 => (if t122 = true then ((sched_May.f k (([(([1] : List Int))] : List (List Int)))).bind fun t129 => (if t129 = true then (some false) else ((sched_Steps.f k y110).bind fun t130 => (some (t130 == 5))))) else (some false))) else (some false)) else (none)) else (some false)) else (none)) else (some false)) else (none)) else (some false))) = some r := by first | (rw [hy110]; with_reducible exact H) | (have H2_ := (Option.bind_some _ _).symm.trans H; rw [hy110]; with_reducible exact H2_) | (have H2_ := (Option.bind_some _ _).symm.trans H; with_reducible exact H2_) | with_reducible exact H | (rw [hy110]; exact H) | exact H
  have Ny110 := Aside0.mk hy110
  clear hy110
  obtain ⟨y113, hy113⟩ : ∃ y_ : List Int, y_ = (([0, 1, 1] : List Int)) := ⟨_, rfl⟩
  replace H : ((sched_Order.f y110 y113).bind fun t116 => (if (t116.length : Int) = 5 then (if 1 < (t116.length : Int) then (if (((rd_T37 t116 1).f0) == 0 && (((rd_T37 t116 1).f1) == 1)) = true then (if 2 < (t116.length : Int) then (if ((rd_T37 t116 2).f0) = 0 then (if 3 < (t116.length : Int) then (if (((rd_T37 t116 3).f0) == 1 && (((rd_T37 t116 3).f1) == 0)) = true then ((sched_May.f k y110).bind fun t122 => (if t122 = true then ((sched_May.f k (([(([1] : List Int))] : List (List Int)))).bind fun t129 => (if t129 = true then (some false) else ((sched_Steps.f k y110).bind fun t130 => (some (t130 == 5))))) else (some false))) else (some false)) else (none)) else (some false)) else (none)) else (some false)) else (none)) else (some false))) = some r := by first | (rw [hy113]; with_reducible exact H) | (have H2_ := (Option.bind_some _ _).symm.trans H; rw [hy113]; with_reducible exact H2_) | (have H2_ := (Option.bind_some _ _).symm.trans H; with_reducible exact H2_) | with_reducible exact H | (rw [hy113]; exact H) | exact H
  have Ny113 := Aside0.mk hy113
  clear hy113
  replace H := Option.bind_eq_some_iff.mp H
  obtain ⟨t116, A10, H⟩ := H
  replace H : (if (t116.length : Int) = 5 then (if 1 < (t116.length : Int) then (if (((rd_T37 t116 1).f0) == 0 && (((rd_T37 t116 1).f1) == 1)) = true then (if 2 < (t116.length : Int) then (if ((rd_T37 t116 2).f0) = 0 then (if 3 < (t116.length : Int) then (if (((rd_T37 t116 3).f0) == 1 && (((rd_T37 t116 3).f1) == 0)) = true then ((sched_May.f k y110).bind fun t122 => (if t122 = true then ((sched_May.f k (([(([1] : List Int))] : List (List Int)))).bind fun t129 => (if t129 = true then (some false) else ((sched_Steps.f k y110).bind fun t130 => (some (t130 == 5))))) else (some false))) else (some false)) else (none)) else (some false)) else (none)) else (some false)) else (none)) else (some false)) = some r := H
  have A1 := Aside0.mk A10
  clear A10
  by_cases c2 : (t116.length : Int) = 5
  · rw [if_pos c2] at H
    have c2b0 : ((t116.length : Int) == 5) = true := beq_iff_eq.mpr c2
    have c2b1 : ((t116.length : Int) != 5) = false := bne_eq_false_iff_eq.mpr c2
    clear c2
    by_cases c3 : 1 < (t116.length : Int)
    · rw [if_pos c3] at H
      have c3b0 : decide (1 < (t116.length : Int)) = true := decide_eq_true c3
      have c3b1 : decide (1 < t116.length) = true := decide_eq_true (by omega)
      clear c3
      by_cases c4 : (((rd_T37 t116 1).f0) == 0 && (((rd_T37 t116 1).f1) == 1)) = true
      · rw [if_pos c4] at H
        have c4b0 : (((rd_T37 t116 1).f0) == 0 && (((rd_T37 t116 1).f1) == 1)) = true := c4
        (try (have c4b1 : decide (((rd_T37 t116 1).f0) = 0 && (((rd_T37 t116 1).f1) == 1)) = true := by simpa using c4))
        (try (have c4b2 : (((rd_T37 t116 1).f0) == 0 && (((rd_T37 t116 1).f1) == 1)) = true := by simpa using c4))
        clear c4
        by_cases c5 : 2 < (t116.length : Int)
        · rw [if_pos c5] at H
          have c5b0 : decide (2 < (t116.length : Int)) = true := decide_eq_true c5
          have c5b1 : decide (2 < t116.length) = true := decide_eq_true (by omega)
          clear c5
          by_cases c6 : ((rd_T37 t116 2).f0) = 0
          · rw [if_pos c6] at H
            have c6b0 : (((rd_T37 t116 2).f0) == 0) = true := beq_iff_eq.mpr c6
            have c6b1 : (((rd_T37 t116 2).f0) != 0) = false := bne_eq_false_iff_eq.mpr c6
            clear c6
            by_cases c7 : 3 < (t116.length : Int)
            · rw [if_pos c7] at H
              have c7b0 : decide (3 < (t116.length : Int)) = true := decide_eq_true c7
              have c7b1 : decide (3 < t116.length) = true := decide_eq_true (by omega)
              clear c7
              by_cases c8 : (((rd_T37 t116 3).f0) == 1 && (((rd_T37 t116 3).f1) == 0)) = true
              · rw [if_pos c8] at H
                have c8b0 : (((rd_T37 t116 3).f0) == 1 && (((rd_T37 t116 3).f1) == 0)) = true := c8
                (try (have c8b1 : decide (((rd_T37 t116 3).f0) = 1 && (((rd_T37 t116 3).f1) == 0)) = true := by simpa using c8))
                (try (have c8b2 : (((rd_T37 t116 3).f0) == 1 && (((rd_T37 t116 3).f1) == 0)) = true := by simpa using c8))
                clear c8
                replace H := Option.bind_eq_some_iff.mp H
                obtain ⟨t122, A90, H⟩ := H
                replace H : (if t122 = true then ((sched_May.f k (([(([1] : List Int))] : List (List Int)))).bind fun t129 => (if t129 = true then (some false) else ((sched_Steps.f k y110).bind fun t130 => (some (t130 == 5))))) else (some false)) = some r := H
                have A9 := Aside0.mk A90
                clear A90
                by_cases c10 : t122 = true
                · subst c10
                  have H1 : ((sched_May.f k (([(([1] : List Int))] : List (List Int)))).bind fun t129 => (if t129 = true then (some false) else ((sched_Steps.f k y110).bind fun t130 => (some (t130 == 5))))) = some r := by rw [if_pos rfl] at H; exact H
                  clear H
                  have H := H1
                  clear H1
                  obtain ⟨y123, hy123⟩ : ∃ y_ : List Int, y_ = (([1] : List Int)) := ⟨_, rfl⟩
                  replace H : ((sched_May.f k (([y123] : List (List Int)))).bind fun t129 => (if t129 = true then (some false) else ((sched_Steps.f k y110).bind fun t130 => (some (t130 == 5))))) = some r := by first | (rw [hy123]; with_reducible exact H) | (have H2_ := (Option.bind_some _ _).symm.trans H; rw [hy123]; with_reducible exact H2_) | (have H2_ := (Option.bind_some _ _).symm.trans H; with_reducible exact H2_) | with_reducible exact H | (rw [hy123]; exact H) | exact H
                  have Ny123 := Aside0.mk hy123
                  clear hy123
                  obtain ⟨y126, hy126⟩ : ∃ y_ : List (List Int), y_ = (([y123] : List (List Int))) := ⟨_, rfl⟩
                  replace H : ((sched_May.f k y126).bind fun t129 => (if t129 = true then (some false) else ((sched_Steps.f k y110).bind fun t130 => (some (t130 == 5))))) = some r := by first | (rw [hy126]; with_reducible exact H) | (have H2_ := (Option.bind_some _ _).symm.trans H; rw [hy126]; with_reducible exact H2_) | (have H2_ := (Option.bind_some _ _).symm.trans H; with_reducible exact H2_) | with_reducible exact H | (rw [hy126]; exact H) | exact H
                  have Ny126 := Aside0.mk hy126
                  clear hy126
                  replace H := Option.bind_eq_some_iff.mp H
                  obtain ⟨t129, A110, H⟩ := H
                  replace H : (if t129 = true then (some false) else ((sched_Steps.f k y110).bind fun t130 => (some (t130 == 5)))) = some r := H
                  have A11 := Aside0.mk A110
                  clear A110
                  by_cases c12 : t129 = true
                  · subst c12
                    have H1 : (some false) = some r := by rw [if_pos rfl] at H; exact H
                    clear H
                    have H := H1
                    clear H1
                    obtain rfl := Option.some.inj H
                    go_enter Try.func8, Try.ntmps8
                    go_wp2_with (first | ((with_reducible refine gate_dst (N := 3) rfl ?_); (try (refine gate_guard (by rfl) ?_; dsimp only)); refine Kd.R_lit (Kd.int .i64) _ 3 ?hg (N := 3) ?hd (xs := ([1, 0, (-1)] : List Int)) (inner := [.int .i64 1, .int .i64 0, .int .i64 (-1)]) (ok := fun _ => True) (okp := fun _ => True) ?hr ?hp (fun _ hk => hk) trivial (Below.refl _ _) (Nat.le_refl _) (by simp) ?_; (case hd => rfl); (case hg => rfl); (case hr => first | (go_simp; done) | (go_simp; rfl)); (case hp => exact (Reps.one (show Kd.M (Kd.int .i64) _ _ _ 1 [.int .i64 1] from rfl) (Reps.one (show Kd.M (Kd.int .i64) _ _ _ 0 [.int .i64 0] from rfl) (Reps.one (show Kd.M (Kd.int .i64) _ _ _ (-1) [.int .i64 (-1)] from rfl) (Reps.none _ _))))); intro v105 w13 ho14 hb hg_ hnew_; clear hg_ hnew_; (first | rw [← Ny104.out] at ho14 | (simp only [Int.reduceToNat] at ho14; rw [← Ny104.out] at ho14)); have n0_ := Aside0.mk (Kd.R_lower ho14 (below_size (by repeat (first | (with_reducible first | exact HB.out | apply below_alloc | apply pw_below_drewN | apply below_drew1) | exact HB.out)))); have n1_ := Aside0.mk (below_step (by repeat (first | (with_reducible first | exact HB.out | apply below_alloc | apply pw_below_drewN | apply below_drew1) | exact HB.out)) hb); clear HB; have HO106 := n0_; have HB := n1_; clear n0_ n1_; clear hb ho14) | ((with_reducible refine gate_dst (N := 4) rfl ?_); (try (refine gate_guard (by rfl) ?_; dsimp only)); refine Kd.R_lit (Kd.int .i64) _ 3 ?hg (N := 4) ?hd (xs := ([1, (-1)] : List Int)) (inner := [.int .i64 1, .int .i64 (-1)]) (ok := fun _ => True) (okp := fun _ => True) ?hr ?hp (fun _ hk => hk) trivial (Below.refl _ _) (Nat.le_refl _) (by simp) ?_; (case hd => rfl); (case hg => rfl); (case hr => first | (go_simp; done) | (go_simp; rfl)); (case hp => exact (Reps.one (show Kd.M (Kd.int .i64) _ _ _ 1 [.int .i64 1] from rfl) (Reps.one (show Kd.M (Kd.int .i64) _ _ _ (-1) [.int .i64 (-1)] from rfl) (Reps.none _ _)))); intro v108 w15 ho16 hb hg_ hnew_; clear hg_ hnew_; (first | rw [← Ny107.out] at ho16 | (simp only [Int.reduceToNat] at ho16; rw [← Ny107.out] at ho16)); have n0_ := Aside0.mk (Kd.R_elder' (by (with_reducible repeat (first | apply Kd.R_alloc | apply Kd.R_drewN | apply Kd.R_drew)); exact HO106.out) (Kd.R_base ho16) hb); have n1_ := Aside0.mk (Kd.R_lower (Kd.R_new' ho16 (Kd.R_lt (by (with_reducible repeat (first | apply Kd.R_alloc | apply Kd.R_drewN | apply Kd.R_drew)); exact HO106.out))) (below_size (by repeat (first | (with_reducible first | exact HB.out | apply below_alloc | apply pw_below_drewN | apply below_drew1) | exact HB.out)))); have n2_ := Aside0.mk (below_step (by repeat (first | (with_reducible first | exact HB.out | apply below_alloc | apply pw_below_drewN | apply below_drew1) | exact HB.out)) hb); clear HO106; clear HB; have HO106 := n0_; have HO109 := n1_; have HB := n2_; clear n0_ n1_ n2_; clear hb ho16; obtain ⟨Ao17, co17, eo17⟩ := Kd.R_slice HO106.out; subst eo17; obtain ⟨Ao18, co18, eo18⟩ := Kd.R_slice HO109.out; subst eo18) | ((with_reducible refine gate_dst (N := 5) rfl ?_); (try (refine gate_guard (by rfl) ?_; dsimp only)); refine Kd.N_lit (Kd.slice 3 (Kd.int .i64)) _ 23 ?hg (N' := 5) ?hd (xs := ([y104, y107] : List (List Int))) (inner := [.slice Ao17 y104.length co17, .slice Ao18 y107.length co18]) (ok := (fun _ => True)) (okp := (fun _ => True)) ?hr ?hp (fun _ hk => hk) ((show ∀ k_, w15.heap.size ≤ k_ → (fun _ => True) k_ from fun k_ hk => trivial) _ (Nat.le_refl _)) (Below.refl _ _) (Nat.le_refl _) (by simp) ?_; (case hd => rfl); (case hg => rfl); (case hr => first | (go_simp; done) | (go_simp; rfl)); (case hp => exact (Reps.one (show Kd.FK (Kd.slice 3 (Kd.int .i64)) _ _ y104 [.slice Ao17 y104.length co17] from (Kd.FK_slice_mk (Kd.R_reads' (Kd.R_mono (ok' := (fun _ => True)) (HO106.out) (fun k_ hk => trivial))).2.1 (Kd.R_F (Kd.R_mono (ok' := (fun _ => True)) (HO106.out) (fun k_ hk => trivial))))) (Reps.one (show Kd.FK (Kd.slice 3 (Kd.int .i64)) _ _ y107 [.slice Ao18 y107.length co18] from (Kd.FK_slice_mk (Kd.R_reads' (Kd.R_mono (ok' := (fun _ => True)) (HO109.out) (fun k_ hk => trivial))).2.1 (Kd.R_F (Kd.R_mono (ok' := (fun _ => True)) (HO109.out) (fun k_ hk => trivial))))) (Reps.none _ _)))); intro v111 w19 ho20 hb hg_ hnew_; clear hg_ hnew_; (first | rw [← Ny110.out] at ho20 | (simp only [Int.reduceToNat] at ho20; rw [← Ny110.out] at ho20)); have n0_ := Aside0.mk (Kd.N_lower ho20 (below_size (by repeat (first | (with_reducible first | exact HB.out | apply below_alloc | apply pw_below_drewN | apply below_drew1) | exact HB.out)))); have n1_ := Aside0.mk (below_step (by repeat (first | (with_reducible first | exact HB.out | apply below_alloc | apply pw_below_drewN | apply below_drew1) | exact HB.out)) hb); clear HB; clear HO106; clear HO109; have HO112 := n0_; have HB := n1_; clear n0_ n1_; clear hb ho20) | ((with_reducible refine gate_dst (N := 7) rfl ?_); (try (refine gate_guard (by rfl) ?_; dsimp only)); refine Kd.R_lit (Kd.int .i64) _ 3 ?hg (N := 7) ?hd (xs := ([0, 1, 1] : List Int)) (inner := [.int .i64 0, .int .i64 1, .int .i64 1]) (ok := fun _ => True) (okp := fun _ => True) ?hr ?hp (fun _ hk => hk) trivial (Below.refl _ _) (Nat.le_refl _) (by simp) ?_; (case hd => rfl); (case hg => rfl); (case hr => first | (go_simp; done) | (go_simp; rfl)); (case hp => exact (Reps.one (show Kd.M (Kd.int .i64) _ _ _ 0 [.int .i64 0] from rfl) (Reps.one (show Kd.M (Kd.int .i64) _ _ _ 1 [.int .i64 1] from rfl) (Reps.one (show Kd.M (Kd.int .i64) _ _ _ 1 [.int .i64 1] from rfl) (Reps.none _ _))))); intro v114 w21 ho22 hb hg_ hnew_; clear hg_ hnew_; (first | rw [← Ny113.out] at ho22 | (simp only [Int.reduceToNat] at ho22; rw [← Ny113.out] at ho22)); have n0_ := Aside0.mk (Kd.N_elder' (by (with_reducible repeat (first | apply Kd.N_alloc | apply Kd.N_drewN | apply Kd.N_drew)); exact HO112.out) (Kd.R_base ho22) hb); have n1_ := Aside0.mk (Kd.R_lower ho22 (below_size (by repeat (first | (with_reducible first | exact HB.out | apply below_alloc | apply pw_below_drewN | apply below_drew1) | exact HB.out)))); have n2_ := Aside0.mk (below_step (by repeat (first | (with_reducible first | exact HB.out | apply below_alloc | apply pw_below_drewN | apply below_drew1) | exact HB.out)) hb); clear HO112; clear HB; have HO112 := n0_; have HO115 := n1_; have HB := n2_; clear n0_ n1_ n2_; clear hb ho22; obtain ⟨Ao23, co23, eo23⟩ := Kd.N_slice HO112.out; subst eo23; obtain ⟨Ao24, co24, eo24⟩ := Kd.R_slice HO115.out; subst eo24) | ((with_reducible refine gate_callee (f := 11) rfl ?_); refine goesL_ (some 8) rfl rfl Try.func11 (by kernel_rfl) rfl #[.slice Ao23 y110.length co23, .slice Ao24 y113.length co24] rfl (by (try simp only [List.map_toArray, List.map_cons, List.map_nil]); first | done | rfl | (simp only [List.length_drop, List.length_take]; rfl)) ?_; (with_reducible refine (sched_Order.calls _ _ y110 _ _ y113 t116 _ ?side1 ?side2 ?side3 ?side4 A1.out).mono ?_); (case side1 => repeat (first | exact (Kd.N_reads' HO112.out).2.2 | (with_reducible refine Kd.C_alloc ?_ _) | (with_reducible refine Kd.C_drewN ?_ _) | (with_reducible refine Kd.C_drew ?_))); (case side2 => exact (Kd.N_reads' HO112.out).2.1); (case side3 => repeat (first | exact (Kd.R_reads' HO115.out).2.2 | (with_reducible refine Kd.C_alloc ?_ _) | (with_reducible refine Kd.C_drewN ?_ _) | (with_reducible refine Kd.C_drew ?_))); (case side4 => exact (Kd.R_reads' HO115.out).2.1); rintro e w25 ⟨v117, rfl, ho0, hb⟩; refine ⟨_, rfl, ?_⟩; have n0_ := Aside0.mk (Kd.N_elder' (by (with_reducible repeat (first | apply Kd.N_alloc | apply Kd.N_drewN | apply Kd.N_drew)); exact HO112.out) (Kd.R_base ho0) hb); have n1_ := Aside0.mk (Kd.R_below (by (with_reducible repeat (first | apply Kd.R_alloc | apply Kd.R_drewN | apply Kd.R_drew)); exact HO115.out) hb); have n2_ := Aside0.mk (Kd.R_lower ho0 (below_size (by repeat (first | (with_reducible first | exact HB.out | apply below_alloc | apply pw_below_drewN | apply below_drew1) | exact HB.out)))); have n3_ := Aside0.mk (below_step (by repeat (first | (with_reducible first | exact HB.out | apply below_alloc | apply pw_below_drewN | apply below_drew1) | exact HB.out)) hb); clear HO112; clear HO115; clear HB; have HO112 := n0_; have HO115 := n1_; have HO118 := n2_; have HB := n3_; clear n0_ n1_ n2_ n3_; (try clear hb); (try clear hb2); (try clear hk); (try clear hi); (try clear ho0); obtain ⟨Ao26, co26, eo26⟩ := Kd.R_slice HO118.out; subst eo26; have p119 : 0 ≤ (1 : Int) := (by omega); have q119 : 1 < (t116.length : Int) := of_decide_eq_true (by first | (with_reducible assumption) | assumption); obtain ⟨ad119, e119, hx119_0, hx119_1⟩ := at_T37 (Kd.R_reads' HO118.out).2.2 1 p119 q119; cases e119; (try simp only [show (1 : Int).toNat = 1 from rfl, Nat.reduceMul, Nat.reduceEqDiff, Go.Addr.add, ↓reduceIte] at hx119_0); (try simp only [show (1 : Int).toNat = 1 from rfl, Nat.reduceMul, Nat.reduceEqDiff, Go.Addr.add, ↓reduceIte] at hx119_1); have qi119 : (1 < t116.length) = True := eq_true (by omega); (try rw [show ((1 : Int)).toNat = 1 from rfl] at hx119_0); (try rw [show 1 * 2 = 2 from rfl] at hx119_0); (try rw [show ((1 : Int)).toNat = 1 from rfl] at hx119_1); (try rw [show 1 * 2 = 2 from rfl] at hx119_1); replace p119 := eq_true p119; replace q119 := eq_true q119; have p120 : 0 ≤ (2 : Int) := (by omega); have q120 : 2 < (t116.length : Int) := of_decide_eq_true (by first | (with_reducible assumption) | assumption); obtain ⟨ad120, e120, hx120_0, hx120_1⟩ := at_T37 (Kd.R_reads' HO118.out).2.2 2 p120 q120; obtain rfl : ad119 = ad120 := (by injection e120); (try simp only [show (2 : Int).toNat = 2 from rfl, Nat.reduceMul, Nat.reduceEqDiff, Go.Addr.add, ↓reduceIte] at hx120_0); (try simp only [show (2 : Int).toNat = 2 from rfl, Nat.reduceMul, Nat.reduceEqDiff, Go.Addr.add, ↓reduceIte] at hx120_1); have qi120 : (2 < t116.length) = True := eq_true (by omega); (try rw [show ((2 : Int)).toNat = 2 from rfl] at hx120_0); (try rw [show 2 * 2 = 4 from rfl] at hx120_0); (try rw [show ((2 : Int)).toNat = 2 from rfl] at hx120_1); (try rw [show 2 * 2 = 4 from rfl] at hx120_1); replace p120 := eq_true p120; replace q120 := eq_true q120; have p121 : 0 ≤ (3 : Int) := (by omega); have q121 : 3 < (t116.length : Int) := of_decide_eq_true (by first | (with_reducible assumption) | assumption); obtain ⟨ad121, e121, hx121_0, hx121_1⟩ := at_T37 (Kd.R_reads' HO118.out).2.2 3 p121 q121; obtain rfl : ad119 = ad121 := (by injection e121); (try simp only [show (3 : Int).toNat = 3 from rfl, Nat.reduceMul, Nat.reduceEqDiff, Go.Addr.add, ↓reduceIte] at hx121_0); (try simp only [show (3 : Int).toNat = 3 from rfl, Nat.reduceMul, Nat.reduceEqDiff, Go.Addr.add, ↓reduceIte] at hx121_1); have qi121 : (3 < t116.length) = True := eq_true (by omega); (try rw [show ((3 : Int)).toNat = 3 from rfl] at hx121_0); (try rw [show 3 * 2 = 6 from rfl] at hx121_0); (try rw [show ((3 : Int)).toNat = 3 from rfl] at hx121_1); (try rw [show 3 * 2 = 6 from rfl] at hx121_1); replace p121 := eq_true p121; replace q121 := eq_true q121) | (go_at_call 13; (with_reducible refine (sched_May.calls k _ _ y110 true _ ?side1 ?side2 A9.out).mono ?_); (case side1 => repeat (first | exact (Kd.N_reads' HO112.out).2.2 | (with_reducible refine Kd.C_alloc ?_ _) | (with_reducible refine Kd.C_drewN ?_ _) | (with_reducible refine Kd.C_drew ?_))); (case side2 => exact (Kd.N_reads' HO112.out).2.1); rintro e w' ⟨rfl, ⟨nd, rfl⟩⟩) | ((with_reducible refine gate_dst (N := 38) rfl ?_); (try (refine gate_guard (by rfl) ?_; dsimp only)); refine Kd.R_lit (Kd.int .i64) _ 3 ?hg (N := 38) ?hd (xs := ([1] : List Int)) (inner := [.int .i64 1]) (ok := fun _ => True) (okp := fun _ => True) ?hr ?hp (fun _ hk => hk) trivial (Below.refl _ _) (Nat.le_refl _) (by simp) ?_; (case hd => rfl); (case hg => rfl); (case hr => first | (go_simp; done) | (go_simp; rfl)); (case hp => exact (Reps.one (show Kd.M (Kd.int .i64) _ _ _ 1 [.int .i64 1] from rfl) (Reps.none _ _))); intro v124 w27 ho28 hb hg_ hnew_; clear hg_ hnew_; (first | rw [← Ny123.out] at ho28 | (simp only [Int.reduceToNat] at ho28; rw [← Ny123.out] at ho28)); have n0_ := Aside0.mk (Kd.N_elder' (by (with_reducible repeat (first | apply Kd.N_alloc | apply Kd.N_drewN | apply Kd.N_drew)); exact HO112.out) (Kd.R_base ho28) hb); have n1_ := Aside0.mk (Kd.R_elder' (by (with_reducible repeat (first | apply Kd.R_alloc | apply Kd.R_drewN | apply Kd.R_drew)); exact HO115.out) (Kd.R_base ho28) hb); have n2_ := Aside0.mk (Kd.R_below (by (with_reducible repeat (first | apply Kd.R_alloc | apply Kd.R_drewN | apply Kd.R_drew)); exact HO118.out) hb); have n3_ := Aside0.mk (Kd.R_lower (Kd.R_new' ho28 (Kd.R_lt (by (with_reducible repeat (first | apply Kd.R_alloc | apply Kd.R_drewN | apply Kd.R_drew)); exact HO115.out))) (below_size (by repeat (first | (with_reducible first | exact HB.out | apply below_alloc | apply pw_below_drewN | apply below_drew1) | exact HB.out)))); have n4_ := Aside0.mk (below_step (by repeat (first | (with_reducible first | exact HB.out | apply below_alloc | apply pw_below_drewN | apply below_drew1) | exact HB.out)) hb); clear HO112; clear HO115; clear HO118; clear HB; have HO112 := n0_; have HO115 := n1_; have HO118 := n2_; have HO125 := n3_; have HB := n4_; clear n0_ n1_ n2_ n3_ n4_; clear hb ho28; obtain ⟨Ao29, co29, eo29⟩ := Kd.R_slice HO125.out; subst eo29) | ((with_reducible refine gate_dst (N := 39) rfl ?_); (try (refine gate_guard (by rfl) ?_; dsimp only)); refine Kd.N_lit (Kd.slice 3 (Kd.int .i64)) _ 23 ?hg (N' := 39) ?hd (xs := ([y123] : List (List Int))) (inner := [.slice Ao29 y123.length co29]) (ok := (fun k_ => some k_ ≠ (.slice Ao23 y110.length co23 : Value).ownBlock ∧ some k_ ≠ (.slice Ao24 y113.length co24 : Value).ownBlock ∧ some k_ ≠ (.slice (some ad119) t116.length co26 : Value).ownBlock)) (okp := (fun k_ => some k_ ≠ (.slice Ao23 y110.length co23 : Value).ownBlock ∧ some k_ ≠ (.slice Ao24 y113.length co24 : Value).ownBlock ∧ some k_ ≠ (.slice (some ad119) t116.length co26 : Value).ownBlock)) ?hr ?hp (fun _ hk => hk) ((show ∀ k_, w27.heap.size ≤ k_ → (fun k_ => some k_ ≠ (.slice Ao23 y110.length co23 : Value).ownBlock ∧ some k_ ≠ (.slice Ao24 y113.length co24 : Value).ownBlock ∧ some k_ ≠ (.slice (some ad119) t116.length co26 : Value).ownBlock) k_ from fun k_ hk => ⟨Kd.fresh' (Kd.N_lt (by (with_reducible repeat (first | apply Kd.N_alloc | apply Kd.N_drewN | apply Kd.N_drew)); exact HO112.out)) k_ hk, Kd.fresh' (Kd.R_lt (by (with_reducible repeat (first | apply Kd.R_alloc | apply Kd.R_drewN | apply Kd.R_drew)); exact HO115.out)) k_ hk, Kd.fresh' (Kd.R_lt (by (with_reducible repeat (first | apply Kd.R_alloc | apply Kd.R_drewN | apply Kd.R_drew)); exact HO118.out)) k_ hk⟩) _ (Nat.le_refl _)) (Below.refl _ _) (Nat.le_refl _) (by simp) ?_; (case hd => rfl); (case hg => rfl); (case hr => first | (go_simp; done) | (go_simp; rfl)); (case hp => exact (Reps.one (show Kd.FK (Kd.slice 3 (Kd.int .i64)) _ _ y123 [.slice Ao29 y123.length co29] from (Kd.FK_slice_mk (Kd.R_reads' (Kd.R_mono (ok' := (fun k_ => some k_ ≠ (.slice Ao23 y110.length co23 : Value).ownBlock ∧ some k_ ≠ (.slice Ao24 y113.length co24 : Value).ownBlock ∧ some k_ ≠ (.slice (some ad119) t116.length co26 : Value).ownBlock)) (Kd.R_apart' (Kd.R_apart' (HO125.out) (Kd.N_typed HO112.out) (by decide)) (Kd.R_typed HO118.out) (by decide)) (fun k_ hk => ⟨hk.1.2, ⟨hk.1.1.2, hk.2⟩⟩))).2.1 (Kd.R_F (Kd.R_mono (ok' := (fun k_ => some k_ ≠ (.slice Ao23 y110.length co23 : Value).ownBlock ∧ some k_ ≠ (.slice Ao24 y113.length co24 : Value).ownBlock ∧ some k_ ≠ (.slice (some ad119) t116.length co26 : Value).ownBlock)) (Kd.R_apart' (Kd.R_apart' (HO125.out) (Kd.N_typed HO112.out) (by decide)) (Kd.R_typed HO118.out) (by decide)) (fun k_ hk => ⟨hk.1.2, ⟨hk.1.1.2, hk.2⟩⟩))))) (Reps.none _ _))); intro v127 w30 ho31 hb hg_ hnew_; clear hg_ hnew_; (first | rw [← Ny126.out] at ho31 | (simp only [Int.reduceToNat] at ho31; rw [← Ny126.out] at ho31)); have n0_ := Aside0.mk (Kd.N_elder' (by (with_reducible repeat (first | apply Kd.N_alloc | apply Kd.N_drewN | apply Kd.N_drew)); exact HO112.out) (Kd.N_base ho31) hb); have n1_ := Aside0.mk (Kd.R_below (by (with_reducible repeat (first | apply Kd.R_alloc | apply Kd.R_drewN | apply Kd.R_drew)); exact HO115.out) hb); have n2_ := Aside0.mk (Kd.R_below (by (with_reducible repeat (first | apply Kd.R_alloc | apply Kd.R_drewN | apply Kd.R_drew)); exact HO118.out) hb); have n3_ := Aside0.mk (Kd.N_lower ho31 (below_size (by repeat (first | (with_reducible first | exact HB.out | apply below_alloc | apply pw_below_drewN | apply below_drew1) | exact HB.out)))); have n4_ := Aside0.mk (below_step (by repeat (first | (with_reducible first | exact HB.out | apply below_alloc | apply pw_below_drewN | apply below_drew1) | exact HB.out)) hb); clear HO112; clear HO115; clear HO118; clear HB; clear HO125; have HO112 := n0_; have HO115 := n1_; have HO118 := n2_; have HO128 := n3_; have HB := n4_; clear n0_ n1_ n2_ n3_ n4_; clear hb ho31; obtain ⟨Ao32, co32, eo32⟩ := Kd.N_slice HO128.out; subst eo32) | (go_at_call 13; (with_reducible refine (sched_May.calls k _ _ y126 true _ ?side1 ?side2 A11.out).mono ?_); (case side1 => repeat (first | exact (Kd.N_reads' HO128.out).2.2 | (with_reducible refine Kd.C_alloc ?_ _) | (with_reducible refine Kd.C_drewN ?_ _) | (with_reducible refine Kd.C_drew ?_))); (case side2 => exact (Kd.N_reads' HO128.out).2.1); rintro e w' ⟨rfl, ⟨nd, rfl⟩⟩))
                    go_ret
                    exact ⟨by first | rfl | (simp [errW_none, errW_some] <;> rfl) | (simp [*, errW_none, errW_some] <;> rfl), by repeat (first | (with_reducible first | exact HB.out | apply below_alloc | apply pw_below_drewN | apply below_drew1) | exact HB.out)⟩
                  · replace c12 := Bool.eq_false_iff.mpr c12
                    subst c12
                    have H1 : ((sched_Steps.f k y110).bind fun t130 => (some (t130 == 5))) = some r := by rw [if_neg (show ¬ (false = true) by decide)] at H; exact H
                    clear H
                    have H := H1
                    clear H1
                    replace H := Option.bind_eq_some_iff.mp H
                    obtain ⟨t130, A330, H⟩ := H
                    replace H : (some (t130 == 5)) = some r := H
                    have A33 := Aside0.mk A330
                    clear A330
                    obtain rfl := Option.some.inj H
                    go_enter Try.func8, Try.ntmps8
                    go_wp2_with (first | ((with_reducible refine gate_dst (N := 3) rfl ?_); (try (refine gate_guard (by rfl) ?_; dsimp only)); refine Kd.R_lit (Kd.int .i64) _ 3 ?hg (N := 3) ?hd (xs := ([1, 0, (-1)] : List Int)) (inner := [.int .i64 1, .int .i64 0, .int .i64 (-1)]) (ok := fun _ => True) (okp := fun _ => True) ?hr ?hp (fun _ hk => hk) trivial (Below.refl _ _) (Nat.le_refl _) (by simp) ?_; (case hd => rfl); (case hg => rfl); (case hr => first | (go_simp; done) | (go_simp; rfl)); (case hp => exact (Reps.one (show Kd.M (Kd.int .i64) _ _ _ 1 [.int .i64 1] from rfl) (Reps.one (show Kd.M (Kd.int .i64) _ _ _ 0 [.int .i64 0] from rfl) (Reps.one (show Kd.M (Kd.int .i64) _ _ _ (-1) [.int .i64 (-1)] from rfl) (Reps.none _ _))))); intro v105 w34 ho35 hb hg_ hnew_; clear hg_ hnew_; (first | rw [← Ny104.out] at ho35 | (simp only [Int.reduceToNat] at ho35; rw [← Ny104.out] at ho35)); have n0_ := Aside0.mk (Kd.R_lower ho35 (below_size (by repeat (first | (with_reducible first | exact HB.out | apply below_alloc | apply pw_below_drewN | apply below_drew1) | exact HB.out)))); have n1_ := Aside0.mk (below_step (by repeat (first | (with_reducible first | exact HB.out | apply below_alloc | apply pw_below_drewN | apply below_drew1) | exact HB.out)) hb); clear HB; have HO106 := n0_; have HB := n1_; clear n0_ n1_; clear hb ho35) | ((with_reducible refine gate_dst (N := 4) rfl ?_); (try (refine gate_guard (by rfl) ?_; dsimp only)); refine Kd.R_lit (Kd.int .i64) _ 3 ?hg (N := 4) ?hd (xs := ([1, (-1)] : List Int)) (inner := [.int .i64 1, .int .i64 (-1)]) (ok := fun _ => True) (okp := fun _ => True) ?hr ?hp (fun _ hk => hk) trivial (Below.refl _ _) (Nat.le_refl _) (by simp) ?_; (case hd => rfl); (case hg => rfl); (case hr => first | (go_simp; done) | (go_simp; rfl)); (case hp => exact (Reps.one (show Kd.M (Kd.int .i64) _ _ _ 1 [.int .i64 1] from rfl) (Reps.one (show Kd.M (Kd.int .i64) _ _ _ (-1) [.int .i64 (-1)] from rfl) (Reps.none _ _)))); intro v108 w36 ho37 hb hg_ hnew_; clear hg_ hnew_; (first | rw [← Ny107.out] at ho37 | (simp only [Int.reduceToNat] at ho37; rw [← Ny107.out] at ho37)); have n0_ := Aside0.mk (Kd.R_elder' (by (with_reducible repeat (first | apply Kd.R_alloc | apply Kd.R_drewN | apply Kd.R_drew)); exact HO106.out) (Kd.R_base ho37) hb); have n1_ := Aside0.mk (Kd.R_lower (Kd.R_new' ho37 (Kd.R_lt (by (with_reducible repeat (first | apply Kd.R_alloc | apply Kd.R_drewN | apply Kd.R_drew)); exact HO106.out))) (below_size (by repeat (first | (with_reducible first | exact HB.out | apply below_alloc | apply pw_below_drewN | apply below_drew1) | exact HB.out)))); have n2_ := Aside0.mk (below_step (by repeat (first | (with_reducible first | exact HB.out | apply below_alloc | apply pw_below_drewN | apply below_drew1) | exact HB.out)) hb); clear HO106; clear HB; have HO106 := n0_; have HO109 := n1_; have HB := n2_; clear n0_ n1_ n2_; clear hb ho37; obtain ⟨Ao38, co38, eo38⟩ := Kd.R_slice HO106.out; subst eo38; obtain ⟨Ao39, co39, eo39⟩ := Kd.R_slice HO109.out; subst eo39) | ((with_reducible refine gate_dst (N := 5) rfl ?_); (try (refine gate_guard (by rfl) ?_; dsimp only)); refine Kd.N_lit (Kd.slice 3 (Kd.int .i64)) _ 23 ?hg (N' := 5) ?hd (xs := ([y104, y107] : List (List Int))) (inner := [.slice Ao38 y104.length co38, .slice Ao39 y107.length co39]) (ok := (fun _ => True)) (okp := (fun _ => True)) ?hr ?hp (fun _ hk => hk) ((show ∀ k_, w36.heap.size ≤ k_ → (fun _ => True) k_ from fun k_ hk => trivial) _ (Nat.le_refl _)) (Below.refl _ _) (Nat.le_refl _) (by simp) ?_; (case hd => rfl); (case hg => rfl); (case hr => first | (go_simp; done) | (go_simp; rfl)); (case hp => exact (Reps.one (show Kd.FK (Kd.slice 3 (Kd.int .i64)) _ _ y104 [.slice Ao38 y104.length co38] from (Kd.FK_slice_mk (Kd.R_reads' (Kd.R_mono (ok' := (fun _ => True)) (HO106.out) (fun k_ hk => trivial))).2.1 (Kd.R_F (Kd.R_mono (ok' := (fun _ => True)) (HO106.out) (fun k_ hk => trivial))))) (Reps.one (show Kd.FK (Kd.slice 3 (Kd.int .i64)) _ _ y107 [.slice Ao39 y107.length co39] from (Kd.FK_slice_mk (Kd.R_reads' (Kd.R_mono (ok' := (fun _ => True)) (HO109.out) (fun k_ hk => trivial))).2.1 (Kd.R_F (Kd.R_mono (ok' := (fun _ => True)) (HO109.out) (fun k_ hk => trivial))))) (Reps.none _ _)))); intro v111 w40 ho41 hb hg_ hnew_; clear hg_ hnew_; (first | rw [← Ny110.out] at ho41 | (simp only [Int.reduceToNat] at ho41; rw [← Ny110.out] at ho41)); have n0_ := Aside0.mk (Kd.N_lower ho41 (below_size (by repeat (first | (with_reducible first | exact HB.out | apply below_alloc | apply pw_below_drewN | apply below_drew1) | exact HB.out)))); have n1_ := Aside0.mk (below_step (by repeat (first | (with_reducible first | exact HB.out | apply below_alloc | apply pw_below_drewN | apply below_drew1) | exact HB.out)) hb); clear HB; clear HO106; clear HO109; have HO112 := n0_; have HB := n1_; clear n0_ n1_; clear hb ho41) | ((with_reducible refine gate_dst (N := 7) rfl ?_); (try (refine gate_guard (by rfl) ?_; dsimp only)); refine Kd.R_lit (Kd.int .i64) _ 3 ?hg (N := 7) ?hd (xs := ([0, 1, 1] : List Int)) (inner := [.int .i64 0, .int .i64 1, .int .i64 1]) (ok := fun _ => True) (okp := fun _ => True) ?hr ?hp (fun _ hk => hk) trivial (Below.refl _ _) (Nat.le_refl _) (by simp) ?_; (case hd => rfl); (case hg => rfl); (case hr => first | (go_simp; done) | (go_simp; rfl)); (case hp => exact (Reps.one (show Kd.M (Kd.int .i64) _ _ _ 0 [.int .i64 0] from rfl) (Reps.one (show Kd.M (Kd.int .i64) _ _ _ 1 [.int .i64 1] from rfl) (Reps.one (show Kd.M (Kd.int .i64) _ _ _ 1 [.int .i64 1] from rfl) (Reps.none _ _))))); intro v114 w42 ho43 hb hg_ hnew_; clear hg_ hnew_; (first | rw [← Ny113.out] at ho43 | (simp only [Int.reduceToNat] at ho43; rw [← Ny113.out] at ho43)); have n0_ := Aside0.mk (Kd.N_elder' (by (with_reducible repeat (first | apply Kd.N_alloc | apply Kd.N_drewN | apply Kd.N_drew)); exact HO112.out) (Kd.R_base ho43) hb); have n1_ := Aside0.mk (Kd.R_lower ho43 (below_size (by repeat (first | (with_reducible first | exact HB.out | apply below_alloc | apply pw_below_drewN | apply below_drew1) | exact HB.out)))); have n2_ := Aside0.mk (below_step (by repeat (first | (with_reducible first | exact HB.out | apply below_alloc | apply pw_below_drewN | apply below_drew1) | exact HB.out)) hb); clear HO112; clear HB; have HO112 := n0_; have HO115 := n1_; have HB := n2_; clear n0_ n1_ n2_; clear hb ho43; obtain ⟨Ao44, co44, eo44⟩ := Kd.N_slice HO112.out; subst eo44; obtain ⟨Ao45, co45, eo45⟩ := Kd.R_slice HO115.out; subst eo45) | ((with_reducible refine gate_callee (f := 11) rfl ?_); refine goesL_ (some 8) rfl rfl Try.func11 (by kernel_rfl) rfl #[.slice Ao44 y110.length co44, .slice Ao45 y113.length co45] rfl (by (try simp only [List.map_toArray, List.map_cons, List.map_nil]); first | done | rfl | (simp only [List.length_drop, List.length_take]; rfl)) ?_; (with_reducible refine (sched_Order.calls _ _ y110 _ _ y113 t116 _ ?side1 ?side2 ?side3 ?side4 A1.out).mono ?_); (case side1 => repeat (first | exact (Kd.N_reads' HO112.out).2.2 | (with_reducible refine Kd.C_alloc ?_ _) | (with_reducible refine Kd.C_drewN ?_ _) | (with_reducible refine Kd.C_drew ?_))); (case side2 => exact (Kd.N_reads' HO112.out).2.1); (case side3 => repeat (first | exact (Kd.R_reads' HO115.out).2.2 | (with_reducible refine Kd.C_alloc ?_ _) | (with_reducible refine Kd.C_drewN ?_ _) | (with_reducible refine Kd.C_drew ?_))); (case side4 => exact (Kd.R_reads' HO115.out).2.1); rintro e w46 ⟨v117, rfl, ho0, hb⟩; refine ⟨_, rfl, ?_⟩; have n0_ := Aside0.mk (Kd.N_elder' (by (with_reducible repeat (first | apply Kd.N_alloc | apply Kd.N_drewN | apply Kd.N_drew)); exact HO112.out) (Kd.R_base ho0) hb); have n1_ := Aside0.mk (Kd.R_below (by (with_reducible repeat (first | apply Kd.R_alloc | apply Kd.R_drewN | apply Kd.R_drew)); exact HO115.out) hb); have n2_ := Aside0.mk (Kd.R_lower ho0 (below_size (by repeat (first | (with_reducible first | exact HB.out | apply below_alloc | apply pw_below_drewN | apply below_drew1) | exact HB.out)))); have n3_ := Aside0.mk (below_step (by repeat (first | (with_reducible first | exact HB.out | apply below_alloc | apply pw_below_drewN | apply below_drew1) | exact HB.out)) hb); clear HO112; clear HO115; clear HB; have HO112 := n0_; have HO115 := n1_; have HO118 := n2_; have HB := n3_; clear n0_ n1_ n2_ n3_; (try clear hb); (try clear hb2); (try clear hk); (try clear hi); (try clear ho0); obtain ⟨Ao47, co47, eo47⟩ := Kd.R_slice HO118.out; subst eo47; have p119 : 0 ≤ (1 : Int) := (by omega); have q119 : 1 < (t116.length : Int) := of_decide_eq_true (by first | (with_reducible assumption) | assumption); obtain ⟨ad119, e119, hx119_0, hx119_1⟩ := at_T37 (Kd.R_reads' HO118.out).2.2 1 p119 q119; cases e119; (try simp only [show (1 : Int).toNat = 1 from rfl, Nat.reduceMul, Nat.reduceEqDiff, Go.Addr.add, ↓reduceIte] at hx119_0); (try simp only [show (1 : Int).toNat = 1 from rfl, Nat.reduceMul, Nat.reduceEqDiff, Go.Addr.add, ↓reduceIte] at hx119_1); have qi119 : (1 < t116.length) = True := eq_true (by omega); (try rw [show ((1 : Int)).toNat = 1 from rfl] at hx119_0); (try rw [show 1 * 2 = 2 from rfl] at hx119_0); (try rw [show ((1 : Int)).toNat = 1 from rfl] at hx119_1); (try rw [show 1 * 2 = 2 from rfl] at hx119_1); replace p119 := eq_true p119; replace q119 := eq_true q119; have p120 : 0 ≤ (2 : Int) := (by omega); have q120 : 2 < (t116.length : Int) := of_decide_eq_true (by first | (with_reducible assumption) | assumption); obtain ⟨ad120, e120, hx120_0, hx120_1⟩ := at_T37 (Kd.R_reads' HO118.out).2.2 2 p120 q120; obtain rfl : ad119 = ad120 := (by injection e120); (try simp only [show (2 : Int).toNat = 2 from rfl, Nat.reduceMul, Nat.reduceEqDiff, Go.Addr.add, ↓reduceIte] at hx120_0); (try simp only [show (2 : Int).toNat = 2 from rfl, Nat.reduceMul, Nat.reduceEqDiff, Go.Addr.add, ↓reduceIte] at hx120_1); have qi120 : (2 < t116.length) = True := eq_true (by omega); (try rw [show ((2 : Int)).toNat = 2 from rfl] at hx120_0); (try rw [show 2 * 2 = 4 from rfl] at hx120_0); (try rw [show ((2 : Int)).toNat = 2 from rfl] at hx120_1); (try rw [show 2 * 2 = 4 from rfl] at hx120_1); replace p120 := eq_true p120; replace q120 := eq_true q120; have p121 : 0 ≤ (3 : Int) := (by omega); have q121 : 3 < (t116.length : Int) := of_decide_eq_true (by first | (with_reducible assumption) | assumption); obtain ⟨ad121, e121, hx121_0, hx121_1⟩ := at_T37 (Kd.R_reads' HO118.out).2.2 3 p121 q121; obtain rfl : ad119 = ad121 := (by injection e121); (try simp only [show (3 : Int).toNat = 3 from rfl, Nat.reduceMul, Nat.reduceEqDiff, Go.Addr.add, ↓reduceIte] at hx121_0); (try simp only [show (3 : Int).toNat = 3 from rfl, Nat.reduceMul, Nat.reduceEqDiff, Go.Addr.add, ↓reduceIte] at hx121_1); have qi121 : (3 < t116.length) = True := eq_true (by omega); (try rw [show ((3 : Int)).toNat = 3 from rfl] at hx121_0); (try rw [show 3 * 2 = 6 from rfl] at hx121_0); (try rw [show ((3 : Int)).toNat = 3 from rfl] at hx121_1); (try rw [show 3 * 2 = 6 from rfl] at hx121_1); replace p121 := eq_true p121; replace q121 := eq_true q121) | (go_at_call 13; (with_reducible refine (sched_May.calls k _ _ y110 true _ ?side1 ?side2 A9.out).mono ?_); (case side1 => repeat (first | exact (Kd.N_reads' HO112.out).2.2 | (with_reducible refine Kd.C_alloc ?_ _) | (with_reducible refine Kd.C_drewN ?_ _) | (with_reducible refine Kd.C_drew ?_))); (case side2 => exact (Kd.N_reads' HO112.out).2.1); rintro e w' ⟨rfl, ⟨nd, rfl⟩⟩) | ((with_reducible refine gate_dst (N := 38) rfl ?_); (try (refine gate_guard (by rfl) ?_; dsimp only)); refine Kd.R_lit (Kd.int .i64) _ 3 ?hg (N := 38) ?hd (xs := ([1] : List Int)) (inner := [.int .i64 1]) (ok := fun _ => True) (okp := fun _ => True) ?hr ?hp (fun _ hk => hk) trivial (Below.refl _ _) (Nat.le_refl _) (by simp) ?_; (case hd => rfl); (case hg => rfl); (case hr => first | (go_simp; done) | (go_simp; rfl)); (case hp => exact (Reps.one (show Kd.M (Kd.int .i64) _ _ _ 1 [.int .i64 1] from rfl) (Reps.none _ _))); intro v124 w48 ho49 hb hg_ hnew_; clear hg_ hnew_; (first | rw [← Ny123.out] at ho49 | (simp only [Int.reduceToNat] at ho49; rw [← Ny123.out] at ho49)); have n0_ := Aside0.mk (Kd.N_elder' (by (with_reducible repeat (first | apply Kd.N_alloc | apply Kd.N_drewN | apply Kd.N_drew)); exact HO112.out) (Kd.R_base ho49) hb); have n1_ := Aside0.mk (Kd.R_elder' (by (with_reducible repeat (first | apply Kd.R_alloc | apply Kd.R_drewN | apply Kd.R_drew)); exact HO115.out) (Kd.R_base ho49) hb); have n2_ := Aside0.mk (Kd.R_below (by (with_reducible repeat (first | apply Kd.R_alloc | apply Kd.R_drewN | apply Kd.R_drew)); exact HO118.out) hb); have n3_ := Aside0.mk (Kd.R_lower (Kd.R_new' ho49 (Kd.R_lt (by (with_reducible repeat (first | apply Kd.R_alloc | apply Kd.R_drewN | apply Kd.R_drew)); exact HO115.out))) (below_size (by repeat (first | (with_reducible first | exact HB.out | apply below_alloc | apply pw_below_drewN | apply below_drew1) | exact HB.out)))); have n4_ := Aside0.mk (below_step (by repeat (first | (with_reducible first | exact HB.out | apply below_alloc | apply pw_below_drewN | apply below_drew1) | exact HB.out)) hb); clear HO112; clear HO115; clear HO118; clear HB; have HO112 := n0_; have HO115 := n1_; have HO118 := n2_; have HO125 := n3_; have HB := n4_; clear n0_ n1_ n2_ n3_ n4_; clear hb ho49; obtain ⟨Ao50, co50, eo50⟩ := Kd.R_slice HO125.out; subst eo50) | ((with_reducible refine gate_dst (N := 39) rfl ?_); (try (refine gate_guard (by rfl) ?_; dsimp only)); refine Kd.N_lit (Kd.slice 3 (Kd.int .i64)) _ 23 ?hg (N' := 39) ?hd (xs := ([y123] : List (List Int))) (inner := [.slice Ao50 y123.length co50]) (ok := (fun k_ => some k_ ≠ (.slice Ao44 y110.length co44 : Value).ownBlock ∧ some k_ ≠ (.slice Ao45 y113.length co45 : Value).ownBlock ∧ some k_ ≠ (.slice (some ad119) t116.length co47 : Value).ownBlock)) (okp := (fun k_ => some k_ ≠ (.slice Ao44 y110.length co44 : Value).ownBlock ∧ some k_ ≠ (.slice Ao45 y113.length co45 : Value).ownBlock ∧ some k_ ≠ (.slice (some ad119) t116.length co47 : Value).ownBlock)) ?hr ?hp (fun _ hk => hk) ((show ∀ k_, w48.heap.size ≤ k_ → (fun k_ => some k_ ≠ (.slice Ao44 y110.length co44 : Value).ownBlock ∧ some k_ ≠ (.slice Ao45 y113.length co45 : Value).ownBlock ∧ some k_ ≠ (.slice (some ad119) t116.length co47 : Value).ownBlock) k_ from fun k_ hk => ⟨Kd.fresh' (Kd.N_lt (by (with_reducible repeat (first | apply Kd.N_alloc | apply Kd.N_drewN | apply Kd.N_drew)); exact HO112.out)) k_ hk, Kd.fresh' (Kd.R_lt (by (with_reducible repeat (first | apply Kd.R_alloc | apply Kd.R_drewN | apply Kd.R_drew)); exact HO115.out)) k_ hk, Kd.fresh' (Kd.R_lt (by (with_reducible repeat (first | apply Kd.R_alloc | apply Kd.R_drewN | apply Kd.R_drew)); exact HO118.out)) k_ hk⟩) _ (Nat.le_refl _)) (Below.refl _ _) (Nat.le_refl _) (by simp) ?_; (case hd => rfl); (case hg => rfl); (case hr => first | (go_simp; done) | (go_simp; rfl)); (case hp => exact (Reps.one (show Kd.FK (Kd.slice 3 (Kd.int .i64)) _ _ y123 [.slice Ao50 y123.length co50] from (Kd.FK_slice_mk (Kd.R_reads' (Kd.R_mono (ok' := (fun k_ => some k_ ≠ (.slice Ao44 y110.length co44 : Value).ownBlock ∧ some k_ ≠ (.slice Ao45 y113.length co45 : Value).ownBlock ∧ some k_ ≠ (.slice (some ad119) t116.length co47 : Value).ownBlock)) (Kd.R_apart' (Kd.R_apart' (HO125.out) (Kd.N_typed HO112.out) (by decide)) (Kd.R_typed HO118.out) (by decide)) (fun k_ hk => ⟨hk.1.2, ⟨hk.1.1.2, hk.2⟩⟩))).2.1 (Kd.R_F (Kd.R_mono (ok' := (fun k_ => some k_ ≠ (.slice Ao44 y110.length co44 : Value).ownBlock ∧ some k_ ≠ (.slice Ao45 y113.length co45 : Value).ownBlock ∧ some k_ ≠ (.slice (some ad119) t116.length co47 : Value).ownBlock)) (Kd.R_apart' (Kd.R_apart' (HO125.out) (Kd.N_typed HO112.out) (by decide)) (Kd.R_typed HO118.out) (by decide)) (fun k_ hk => ⟨hk.1.2, ⟨hk.1.1.2, hk.2⟩⟩))))) (Reps.none _ _))); intro v127 w51 ho52 hb hg_ hnew_; clear hg_ hnew_; (first | rw [← Ny126.out] at ho52 | (simp only [Int.reduceToNat] at ho52; rw [← Ny126.out] at ho52)); have n0_ := Aside0.mk (Kd.N_elder' (by (with_reducible repeat (first | apply Kd.N_alloc | apply Kd.N_drewN | apply Kd.N_drew)); exact HO112.out) (Kd.N_base ho52) hb); have n1_ := Aside0.mk (Kd.R_below (by (with_reducible repeat (first | apply Kd.R_alloc | apply Kd.R_drewN | apply Kd.R_drew)); exact HO115.out) hb); have n2_ := Aside0.mk (Kd.R_below (by (with_reducible repeat (first | apply Kd.R_alloc | apply Kd.R_drewN | apply Kd.R_drew)); exact HO118.out) hb); have n3_ := Aside0.mk (Kd.N_lower ho52 (below_size (by repeat (first | (with_reducible first | exact HB.out | apply below_alloc | apply pw_below_drewN | apply below_drew1) | exact HB.out)))); have n4_ := Aside0.mk (below_step (by repeat (first | (with_reducible first | exact HB.out | apply below_alloc | apply pw_below_drewN | apply below_drew1) | exact HB.out)) hb); clear HO112; clear HO115; clear HO118; clear HB; clear HO125; have HO112 := n0_; have HO115 := n1_; have HO118 := n2_; have HO128 := n3_; have HB := n4_; clear n0_ n1_ n2_ n3_ n4_; clear hb ho52; obtain ⟨Ao53, co53, eo53⟩ := Kd.N_slice HO128.out; subst eo53) | (go_at_call 13; (with_reducible refine (sched_May.calls k _ _ y126 false _ ?side1 ?side2 A11.out).mono ?_); (case side1 => repeat (first | exact (Kd.N_reads' HO128.out).2.2 | (with_reducible refine Kd.C_alloc ?_ _) | (with_reducible refine Kd.C_drewN ?_ _) | (with_reducible refine Kd.C_drew ?_))); (case side2 => exact (Kd.N_reads' HO128.out).2.1); rintro e w' ⟨rfl, ⟨nd, rfl⟩⟩) | (go_at_call 15; (with_reducible refine (sched_Steps.calls k _ _ y110 t130 _ ?side1 ?side2 A33.out).mono ?_); (case side1 => repeat (first | exact (Kd.N_reads' HO112.out).2.2 | (with_reducible refine Kd.C_alloc ?_ _) | (with_reducible refine Kd.C_drewN ?_ _) | (with_reducible refine Kd.C_drew ?_))); (case side2 => exact (Kd.N_reads' HO112.out).2.1); rintro e w' ⟨rfl, ⟨nd, rfl⟩⟩))
                    go_ret
                    exact ⟨by first | rfl | (simp [errW_none, errW_some] <;> rfl) | (simp [*, errW_none, errW_some] <;> rfl), by repeat (first | (with_reducible first | exact HB.out | apply below_alloc | apply pw_below_drewN | apply below_drew1) | exact HB.out)⟩
                · replace c10 := Bool.eq_false_iff.mpr c10
                  subst c10
                  have H1 : (some false) = some r := by rw [if_neg (show ¬ (false = true) by decide)] at H; exact H
                  clear H
                  have H := H1
                  clear H1
                  obtain rfl := Option.some.inj H
                  go_enter Try.func8, Try.ntmps8
                  go_wp2_with (first | ((with_reducible refine gate_dst (N := 3) rfl ?_); (try (refine gate_guard (by rfl) ?_; dsimp only)); refine Kd.R_lit (Kd.int .i64) _ 3 ?hg (N := 3) ?hd (xs := ([1, 0, (-1)] : List Int)) (inner := [.int .i64 1, .int .i64 0, .int .i64 (-1)]) (ok := fun _ => True) (okp := fun _ => True) ?hr ?hp (fun _ hk => hk) trivial (Below.refl _ _) (Nat.le_refl _) (by simp) ?_; (case hd => rfl); (case hg => rfl); (case hr => first | (go_simp; done) | (go_simp; rfl)); (case hp => exact (Reps.one (show Kd.M (Kd.int .i64) _ _ _ 1 [.int .i64 1] from rfl) (Reps.one (show Kd.M (Kd.int .i64) _ _ _ 0 [.int .i64 0] from rfl) (Reps.one (show Kd.M (Kd.int .i64) _ _ _ (-1) [.int .i64 (-1)] from rfl) (Reps.none _ _))))); intro v105 w54 ho55 hb hg_ hnew_; clear hg_ hnew_; (first | rw [← Ny104.out] at ho55 | (simp only [Int.reduceToNat] at ho55; rw [← Ny104.out] at ho55)); have n0_ := Aside0.mk (Kd.R_lower ho55 (below_size (by repeat (first | (with_reducible first | exact HB.out | apply below_alloc | apply pw_below_drewN | apply below_drew1) | exact HB.out)))); have n1_ := Aside0.mk (below_step (by repeat (first | (with_reducible first | exact HB.out | apply below_alloc | apply pw_below_drewN | apply below_drew1) | exact HB.out)) hb); clear HB; have HO106 := n0_; have HB := n1_; clear n0_ n1_; clear hb ho55) | ((with_reducible refine gate_dst (N := 4) rfl ?_); (try (refine gate_guard (by rfl) ?_; dsimp only)); refine Kd.R_lit (Kd.int .i64) _ 3 ?hg (N := 4) ?hd (xs := ([1, (-1)] : List Int)) (inner := [.int .i64 1, .int .i64 (-1)]) (ok := fun _ => True) (okp := fun _ => True) ?hr ?hp (fun _ hk => hk) trivial (Below.refl _ _) (Nat.le_refl _) (by simp) ?_; (case hd => rfl); (case hg => rfl); (case hr => first | (go_simp; done) | (go_simp; rfl)); (case hp => exact (Reps.one (show Kd.M (Kd.int .i64) _ _ _ 1 [.int .i64 1] from rfl) (Reps.one (show Kd.M (Kd.int .i64) _ _ _ (-1) [.int .i64 (-1)] from rfl) (Reps.none _ _)))); intro v108 w56 ho57 hb hg_ hnew_; clear hg_ hnew_; (first | rw [← Ny107.out] at ho57 | (simp only [Int.reduceToNat] at ho57; rw [← Ny107.out] at ho57)); have n0_ := Aside0.mk (Kd.R_elder' (by (with_reducible repeat (first | apply Kd.R_alloc | apply Kd.R_drewN | apply Kd.R_drew)); exact HO106.out) (Kd.R_base ho57) hb); have n1_ := Aside0.mk (Kd.R_lower (Kd.R_new' ho57 (Kd.R_lt (by (with_reducible repeat (first | apply Kd.R_alloc | apply Kd.R_drewN | apply Kd.R_drew)); exact HO106.out))) (below_size (by repeat (first | (with_reducible first | exact HB.out | apply below_alloc | apply pw_below_drewN | apply below_drew1) | exact HB.out)))); have n2_ := Aside0.mk (below_step (by repeat (first | (with_reducible first | exact HB.out | apply below_alloc | apply pw_below_drewN | apply below_drew1) | exact HB.out)) hb); clear HO106; clear HB; have HO106 := n0_; have HO109 := n1_; have HB := n2_; clear n0_ n1_ n2_; clear hb ho57; obtain ⟨Ao58, co58, eo58⟩ := Kd.R_slice HO106.out; subst eo58; obtain ⟨Ao59, co59, eo59⟩ := Kd.R_slice HO109.out; subst eo59) | ((with_reducible refine gate_dst (N := 5) rfl ?_); (try (refine gate_guard (by rfl) ?_; dsimp only)); refine Kd.N_lit (Kd.slice 3 (Kd.int .i64)) _ 23 ?hg (N' := 5) ?hd (xs := ([y104, y107] : List (List Int))) (inner := [.slice Ao58 y104.length co58, .slice Ao59 y107.length co59]) (ok := (fun _ => True)) (okp := (fun _ => True)) ?hr ?hp (fun _ hk => hk) ((show ∀ k_, w56.heap.size ≤ k_ → (fun _ => True) k_ from fun k_ hk => trivial) _ (Nat.le_refl _)) (Below.refl _ _) (Nat.le_refl _) (by simp) ?_; (case hd => rfl); (case hg => rfl); (case hr => first | (go_simp; done) | (go_simp; rfl)); (case hp => exact (Reps.one (show Kd.FK (Kd.slice 3 (Kd.int .i64)) _ _ y104 [.slice Ao58 y104.length co58] from (Kd.FK_slice_mk (Kd.R_reads' (Kd.R_mono (ok' := (fun _ => True)) (HO106.out) (fun k_ hk => trivial))).2.1 (Kd.R_F (Kd.R_mono (ok' := (fun _ => True)) (HO106.out) (fun k_ hk => trivial))))) (Reps.one (show Kd.FK (Kd.slice 3 (Kd.int .i64)) _ _ y107 [.slice Ao59 y107.length co59] from (Kd.FK_slice_mk (Kd.R_reads' (Kd.R_mono (ok' := (fun _ => True)) (HO109.out) (fun k_ hk => trivial))).2.1 (Kd.R_F (Kd.R_mono (ok' := (fun _ => True)) (HO109.out) (fun k_ hk => trivial))))) (Reps.none _ _)))); intro v111 w60 ho61 hb hg_ hnew_; clear hg_ hnew_; (first | rw [← Ny110.out] at ho61 | (simp only [Int.reduceToNat] at ho61; rw [← Ny110.out] at ho61)); have n0_ := Aside0.mk (Kd.N_lower ho61 (below_size (by repeat (first | (with_reducible first | exact HB.out | apply below_alloc | apply pw_below_drewN | apply below_drew1) | exact HB.out)))); have n1_ := Aside0.mk (below_step (by repeat (first | (with_reducible first | exact HB.out | apply below_alloc | apply pw_below_drewN | apply below_drew1) | exact HB.out)) hb); clear HB; clear HO106; clear HO109; have HO112 := n0_; have HB := n1_; clear n0_ n1_; clear hb ho61) | ((with_reducible refine gate_dst (N := 7) rfl ?_); (try (refine gate_guard (by rfl) ?_; dsimp only)); refine Kd.R_lit (Kd.int .i64) _ 3 ?hg (N := 7) ?hd (xs := ([0, 1, 1] : List Int)) (inner := [.int .i64 0, .int .i64 1, .int .i64 1]) (ok := fun _ => True) (okp := fun _ => True) ?hr ?hp (fun _ hk => hk) trivial (Below.refl _ _) (Nat.le_refl _) (by simp) ?_; (case hd => rfl); (case hg => rfl); (case hr => first | (go_simp; done) | (go_simp; rfl)); (case hp => exact (Reps.one (show Kd.M (Kd.int .i64) _ _ _ 0 [.int .i64 0] from rfl) (Reps.one (show Kd.M (Kd.int .i64) _ _ _ 1 [.int .i64 1] from rfl) (Reps.one (show Kd.M (Kd.int .i64) _ _ _ 1 [.int .i64 1] from rfl) (Reps.none _ _))))); intro v114 w62 ho63 hb hg_ hnew_; clear hg_ hnew_; (first | rw [← Ny113.out] at ho63 | (simp only [Int.reduceToNat] at ho63; rw [← Ny113.out] at ho63)); have n0_ := Aside0.mk (Kd.N_elder' (by (with_reducible repeat (first | apply Kd.N_alloc | apply Kd.N_drewN | apply Kd.N_drew)); exact HO112.out) (Kd.R_base ho63) hb); have n1_ := Aside0.mk (Kd.R_lower ho63 (below_size (by repeat (first | (with_reducible first | exact HB.out | apply below_alloc | apply pw_below_drewN | apply below_drew1) | exact HB.out)))); have n2_ := Aside0.mk (below_step (by repeat (first | (with_reducible first | exact HB.out | apply below_alloc | apply pw_below_drewN | apply below_drew1) | exact HB.out)) hb); clear HO112; clear HB; have HO112 := n0_; have HO115 := n1_; have HB := n2_; clear n0_ n1_ n2_; clear hb ho63; obtain ⟨Ao64, co64, eo64⟩ := Kd.N_slice HO112.out; subst eo64; obtain ⟨Ao65, co65, eo65⟩ := Kd.R_slice HO115.out; subst eo65) | ((with_reducible refine gate_callee (f := 11) rfl ?_); refine goesL_ (some 8) rfl rfl Try.func11 (by kernel_rfl) rfl #[.slice Ao64 y110.length co64, .slice Ao65 y113.length co65] rfl (by (try simp only [List.map_toArray, List.map_cons, List.map_nil]); first | done | rfl | (simp only [List.length_drop, List.length_take]; rfl)) ?_; (with_reducible refine (sched_Order.calls _ _ y110 _ _ y113 t116 _ ?side1 ?side2 ?side3 ?side4 A1.out).mono ?_); (case side1 => repeat (first | exact (Kd.N_reads' HO112.out).2.2 | (with_reducible refine Kd.C_alloc ?_ _) | (with_reducible refine Kd.C_drewN ?_ _) | (with_reducible refine Kd.C_drew ?_))); (case side2 => exact (Kd.N_reads' HO112.out).2.1); (case side3 => repeat (first | exact (Kd.R_reads' HO115.out).2.2 | (with_reducible refine Kd.C_alloc ?_ _) | (with_reducible refine Kd.C_drewN ?_ _) | (with_reducible refine Kd.C_drew ?_))); (case side4 => exact (Kd.R_reads' HO115.out).2.1); rintro e w66 ⟨v117, rfl, ho0, hb⟩; refine ⟨_, rfl, ?_⟩; have n0_ := Aside0.mk (Kd.N_elder' (by (with_reducible repeat (first | apply Kd.N_alloc | apply Kd.N_drewN | apply Kd.N_drew)); exact HO112.out) (Kd.R_base ho0) hb); have n1_ := Aside0.mk (Kd.R_below (by (with_reducible repeat (first | apply Kd.R_alloc | apply Kd.R_drewN | apply Kd.R_drew)); exact HO115.out) hb); have n2_ := Aside0.mk (Kd.R_lower ho0 (below_size (by repeat (first | (with_reducible first | exact HB.out | apply below_alloc | apply pw_below_drewN | apply below_drew1) | exact HB.out)))); have n3_ := Aside0.mk (below_step (by repeat (first | (with_reducible first | exact HB.out | apply below_alloc | apply pw_below_drewN | apply below_drew1) | exact HB.out)) hb); clear HO112; clear HO115; clear HB; have HO112 := n0_; have HO115 := n1_; have HO118 := n2_; have HB := n3_; clear n0_ n1_ n2_ n3_; (try clear hb); (try clear hb2); (try clear hk); (try clear hi); (try clear ho0); obtain ⟨Ao67, co67, eo67⟩ := Kd.R_slice HO118.out; subst eo67; have p119 : 0 ≤ (1 : Int) := (by omega); have q119 : 1 < (t116.length : Int) := of_decide_eq_true (by first | (with_reducible assumption) | assumption); obtain ⟨ad119, e119, hx119_0, hx119_1⟩ := at_T37 (Kd.R_reads' HO118.out).2.2 1 p119 q119; cases e119; (try simp only [show (1 : Int).toNat = 1 from rfl, Nat.reduceMul, Nat.reduceEqDiff, Go.Addr.add, ↓reduceIte] at hx119_0); (try simp only [show (1 : Int).toNat = 1 from rfl, Nat.reduceMul, Nat.reduceEqDiff, Go.Addr.add, ↓reduceIte] at hx119_1); have qi119 : (1 < t116.length) = True := eq_true (by omega); (try rw [show ((1 : Int)).toNat = 1 from rfl] at hx119_0); (try rw [show 1 * 2 = 2 from rfl] at hx119_0); (try rw [show ((1 : Int)).toNat = 1 from rfl] at hx119_1); (try rw [show 1 * 2 = 2 from rfl] at hx119_1); replace p119 := eq_true p119; replace q119 := eq_true q119; have p120 : 0 ≤ (2 : Int) := (by omega); have q120 : 2 < (t116.length : Int) := of_decide_eq_true (by first | (with_reducible assumption) | assumption); obtain ⟨ad120, e120, hx120_0, hx120_1⟩ := at_T37 (Kd.R_reads' HO118.out).2.2 2 p120 q120; obtain rfl : ad119 = ad120 := (by injection e120); (try simp only [show (2 : Int).toNat = 2 from rfl, Nat.reduceMul, Nat.reduceEqDiff, Go.Addr.add, ↓reduceIte] at hx120_0); (try simp only [show (2 : Int).toNat = 2 from rfl, Nat.reduceMul, Nat.reduceEqDiff, Go.Addr.add, ↓reduceIte] at hx120_1); have qi120 : (2 < t116.length) = True := eq_true (by omega); (try rw [show ((2 : Int)).toNat = 2 from rfl] at hx120_0); (try rw [show 2 * 2 = 4 from rfl] at hx120_0); (try rw [show ((2 : Int)).toNat = 2 from rfl] at hx120_1); (try rw [show 2 * 2 = 4 from rfl] at hx120_1); replace p120 := eq_true p120; replace q120 := eq_true q120; have p121 : 0 ≤ (3 : Int) := (by omega); have q121 : 3 < (t116.length : Int) := of_decide_eq_true (by first | (with_reducible assumption) | assumption); obtain ⟨ad121, e121, hx121_0, hx121_1⟩ := at_T37 (Kd.R_reads' HO118.out).2.2 3 p121 q121; obtain rfl : ad119 = ad121 := (by injection e121); (try simp only [show (3 : Int).toNat = 3 from rfl, Nat.reduceMul, Nat.reduceEqDiff, Go.Addr.add, ↓reduceIte] at hx121_0); (try simp only [show (3 : Int).toNat = 3 from rfl, Nat.reduceMul, Nat.reduceEqDiff, Go.Addr.add, ↓reduceIte] at hx121_1); have qi121 : (3 < t116.length) = True := eq_true (by omega); (try rw [show ((3 : Int)).toNat = 3 from rfl] at hx121_0); (try rw [show 3 * 2 = 6 from rfl] at hx121_0); (try rw [show ((3 : Int)).toNat = 3 from rfl] at hx121_1); (try rw [show 3 * 2 = 6 from rfl] at hx121_1); replace p121 := eq_true p121; replace q121 := eq_true q121) | (go_at_call 13; (with_reducible refine (sched_May.calls k _ _ y110 false _ ?side1 ?side2 A9.out).mono ?_); (case side1 => repeat (first | exact (Kd.N_reads' HO112.out).2.2 | (with_reducible refine Kd.C_alloc ?_ _) | (with_reducible refine Kd.C_drewN ?_ _) | (with_reducible refine Kd.C_drew ?_))); (case side2 => exact (Kd.N_reads' HO112.out).2.1); rintro e w' ⟨rfl, ⟨nd, rfl⟩⟩))
                  go_ret
                  exact ⟨by first | rfl | (simp [errW_none, errW_some] <;> rfl) | (simp [*, errW_none, errW_some] <;> rfl), by repeat (first | (with_reducible first | exact HB.out | apply below_alloc | apply pw_below_drewN | apply below_drew1) | exact HB.out)⟩
              · rw [if_neg c8] at H
                have c8b0 : (((rd_T37 t116 3).f0) == 1 && (((rd_T37 t116 3).f1) == 0)) = false := by simpa using c8
                (try (have c8b1 : decide (((rd_T37 t116 3).f0) = 1 && (((rd_T37 t116 3).f1) == 0)) = false := by simpa using c8))
                (try (have c8b2 : (((rd_T37 t116 3).f0) == 1 && (((rd_T37 t116 3).f1) == 0)) = false := by simpa using c8))
                (try (have c8b3 : ¬ (((rd_T37 t116 3).f0) = 1 && (((rd_T37 t116 3).f1) == 0)) := by simpa using c8))
                clear c8
                obtain rfl := Option.some.inj H
                go_enter Try.func8, Try.ntmps8
                go_wp2_with (first | ((with_reducible refine gate_dst (N := 3) rfl ?_); (try (refine gate_guard (by rfl) ?_; dsimp only)); refine Kd.R_lit (Kd.int .i64) _ 3 ?hg (N := 3) ?hd (xs := ([1, 0, (-1)] : List Int)) (inner := [.int .i64 1, .int .i64 0, .int .i64 (-1)]) (ok := fun _ => True) (okp := fun _ => True) ?hr ?hp (fun _ hk => hk) trivial (Below.refl _ _) (Nat.le_refl _) (by simp) ?_; (case hd => rfl); (case hg => rfl); (case hr => first | (go_simp; done) | (go_simp; rfl)); (case hp => exact (Reps.one (show Kd.M (Kd.int .i64) _ _ _ 1 [.int .i64 1] from rfl) (Reps.one (show Kd.M (Kd.int .i64) _ _ _ 0 [.int .i64 0] from rfl) (Reps.one (show Kd.M (Kd.int .i64) _ _ _ (-1) [.int .i64 (-1)] from rfl) (Reps.none _ _))))); intro v105 w68 ho69 hb hg_ hnew_; clear hg_ hnew_; (first | rw [← Ny104.out] at ho69 | (simp only [Int.reduceToNat] at ho69; rw [← Ny104.out] at ho69)); have n0_ := Aside0.mk (Kd.R_lower ho69 (below_size (by repeat (first | (with_reducible first | exact HB.out | apply below_alloc | apply pw_below_drewN | apply below_drew1) | exact HB.out)))); have n1_ := Aside0.mk (below_step (by repeat (first | (with_reducible first | exact HB.out | apply below_alloc | apply pw_below_drewN | apply below_drew1) | exact HB.out)) hb); clear HB; have HO106 := n0_; have HB := n1_; clear n0_ n1_; clear hb ho69) | ((with_reducible refine gate_dst (N := 4) rfl ?_); (try (refine gate_guard (by rfl) ?_; dsimp only)); refine Kd.R_lit (Kd.int .i64) _ 3 ?hg (N := 4) ?hd (xs := ([1, (-1)] : List Int)) (inner := [.int .i64 1, .int .i64 (-1)]) (ok := fun _ => True) (okp := fun _ => True) ?hr ?hp (fun _ hk => hk) trivial (Below.refl _ _) (Nat.le_refl _) (by simp) ?_; (case hd => rfl); (case hg => rfl); (case hr => first | (go_simp; done) | (go_simp; rfl)); (case hp => exact (Reps.one (show Kd.M (Kd.int .i64) _ _ _ 1 [.int .i64 1] from rfl) (Reps.one (show Kd.M (Kd.int .i64) _ _ _ (-1) [.int .i64 (-1)] from rfl) (Reps.none _ _)))); intro v108 w70 ho71 hb hg_ hnew_; clear hg_ hnew_; (first | rw [← Ny107.out] at ho71 | (simp only [Int.reduceToNat] at ho71; rw [← Ny107.out] at ho71)); have n0_ := Aside0.mk (Kd.R_elder' (by (with_reducible repeat (first | apply Kd.R_alloc | apply Kd.R_drewN | apply Kd.R_drew)); exact HO106.out) (Kd.R_base ho71) hb); have n1_ := Aside0.mk (Kd.R_lower (Kd.R_new' ho71 (Kd.R_lt (by (with_reducible repeat (first | apply Kd.R_alloc | apply Kd.R_drewN | apply Kd.R_drew)); exact HO106.out))) (below_size (by repeat (first | (with_reducible first | exact HB.out | apply below_alloc | apply pw_below_drewN | apply below_drew1) | exact HB.out)))); have n2_ := Aside0.mk (below_step (by repeat (first | (with_reducible first | exact HB.out | apply below_alloc | apply pw_below_drewN | apply below_drew1) | exact HB.out)) hb); clear HO106; clear HB; have HO106 := n0_; have HO109 := n1_; have HB := n2_; clear n0_ n1_ n2_; clear hb ho71; obtain ⟨Ao72, co72, eo72⟩ := Kd.R_slice HO106.out; subst eo72; obtain ⟨Ao73, co73, eo73⟩ := Kd.R_slice HO109.out; subst eo73) | ((with_reducible refine gate_dst (N := 5) rfl ?_); (try (refine gate_guard (by rfl) ?_; dsimp only)); refine Kd.N_lit (Kd.slice 3 (Kd.int .i64)) _ 23 ?hg (N' := 5) ?hd (xs := ([y104, y107] : List (List Int))) (inner := [.slice Ao72 y104.length co72, .slice Ao73 y107.length co73]) (ok := (fun _ => True)) (okp := (fun _ => True)) ?hr ?hp (fun _ hk => hk) ((show ∀ k_, w70.heap.size ≤ k_ → (fun _ => True) k_ from fun k_ hk => trivial) _ (Nat.le_refl _)) (Below.refl _ _) (Nat.le_refl _) (by simp) ?_; (case hd => rfl); (case hg => rfl); (case hr => first | (go_simp; done) | (go_simp; rfl)); (case hp => exact (Reps.one (show Kd.FK (Kd.slice 3 (Kd.int .i64)) _ _ y104 [.slice Ao72 y104.length co72] from (Kd.FK_slice_mk (Kd.R_reads' (Kd.R_mono (ok' := (fun _ => True)) (HO106.out) (fun k_ hk => trivial))).2.1 (Kd.R_F (Kd.R_mono (ok' := (fun _ => True)) (HO106.out) (fun k_ hk => trivial))))) (Reps.one (show Kd.FK (Kd.slice 3 (Kd.int .i64)) _ _ y107 [.slice Ao73 y107.length co73] from (Kd.FK_slice_mk (Kd.R_reads' (Kd.R_mono (ok' := (fun _ => True)) (HO109.out) (fun k_ hk => trivial))).2.1 (Kd.R_F (Kd.R_mono (ok' := (fun _ => True)) (HO109.out) (fun k_ hk => trivial))))) (Reps.none _ _)))); intro v111 w74 ho75 hb hg_ hnew_; clear hg_ hnew_; (first | rw [← Ny110.out] at ho75 | (simp only [Int.reduceToNat] at ho75; rw [← Ny110.out] at ho75)); have n0_ := Aside0.mk (Kd.N_lower ho75 (below_size (by repeat (first | (with_reducible first | exact HB.out | apply below_alloc | apply pw_below_drewN | apply below_drew1) | exact HB.out)))); have n1_ := Aside0.mk (below_step (by repeat (first | (with_reducible first | exact HB.out | apply below_alloc | apply pw_below_drewN | apply below_drew1) | exact HB.out)) hb); clear HB; clear HO106; clear HO109; have HO112 := n0_; have HB := n1_; clear n0_ n1_; clear hb ho75) | ((with_reducible refine gate_dst (N := 7) rfl ?_); (try (refine gate_guard (by rfl) ?_; dsimp only)); refine Kd.R_lit (Kd.int .i64) _ 3 ?hg (N := 7) ?hd (xs := ([0, 1, 1] : List Int)) (inner := [.int .i64 0, .int .i64 1, .int .i64 1]) (ok := fun _ => True) (okp := fun _ => True) ?hr ?hp (fun _ hk => hk) trivial (Below.refl _ _) (Nat.le_refl _) (by simp) ?_; (case hd => rfl); (case hg => rfl); (case hr => first | (go_simp; done) | (go_simp; rfl)); (case hp => exact (Reps.one (show Kd.M (Kd.int .i64) _ _ _ 0 [.int .i64 0] from rfl) (Reps.one (show Kd.M (Kd.int .i64) _ _ _ 1 [.int .i64 1] from rfl) (Reps.one (show Kd.M (Kd.int .i64) _ _ _ 1 [.int .i64 1] from rfl) (Reps.none _ _))))); intro v114 w76 ho77 hb hg_ hnew_; clear hg_ hnew_; (first | rw [← Ny113.out] at ho77 | (simp only [Int.reduceToNat] at ho77; rw [← Ny113.out] at ho77)); have n0_ := Aside0.mk (Kd.N_elder' (by (with_reducible repeat (first | apply Kd.N_alloc | apply Kd.N_drewN | apply Kd.N_drew)); exact HO112.out) (Kd.R_base ho77) hb); have n1_ := Aside0.mk (Kd.R_lower ho77 (below_size (by repeat (first | (with_reducible first | exact HB.out | apply below_alloc | apply pw_below_drewN | apply below_drew1) | exact HB.out)))); have n2_ := Aside0.mk (below_step (by repeat (first | (with_reducible first | exact HB.out | apply below_alloc | apply pw_below_drewN | apply below_drew1) | exact HB.out)) hb); clear HO112; clear HB; have HO112 := n0_; have HO115 := n1_; have HB := n2_; clear n0_ n1_ n2_; clear hb ho77; obtain ⟨Ao78, co78, eo78⟩ := Kd.N_slice HO112.out; subst eo78; obtain ⟨Ao79, co79, eo79⟩ := Kd.R_slice HO115.out; subst eo79) | ((with_reducible refine gate_callee (f := 11) rfl ?_); refine goesL_ (some 8) rfl rfl Try.func11 (by kernel_rfl) rfl #[.slice Ao78 y110.length co78, .slice Ao79 y113.length co79] rfl (by (try simp only [List.map_toArray, List.map_cons, List.map_nil]); first | done | rfl | (simp only [List.length_drop, List.length_take]; rfl)) ?_; (with_reducible refine (sched_Order.calls _ _ y110 _ _ y113 t116 _ ?side1 ?side2 ?side3 ?side4 A1.out).mono ?_); (case side1 => repeat (first | exact (Kd.N_reads' HO112.out).2.2 | (with_reducible refine Kd.C_alloc ?_ _) | (with_reducible refine Kd.C_drewN ?_ _) | (with_reducible refine Kd.C_drew ?_))); (case side2 => exact (Kd.N_reads' HO112.out).2.1); (case side3 => repeat (first | exact (Kd.R_reads' HO115.out).2.2 | (with_reducible refine Kd.C_alloc ?_ _) | (with_reducible refine Kd.C_drewN ?_ _) | (with_reducible refine Kd.C_drew ?_))); (case side4 => exact (Kd.R_reads' HO115.out).2.1); rintro e w80 ⟨v117, rfl, ho0, hb⟩; refine ⟨_, rfl, ?_⟩; have n0_ := Aside0.mk (Kd.N_elder' (by (with_reducible repeat (first | apply Kd.N_alloc | apply Kd.N_drewN | apply Kd.N_drew)); exact HO112.out) (Kd.R_base ho0) hb); have n1_ := Aside0.mk (Kd.R_below (by (with_reducible repeat (first | apply Kd.R_alloc | apply Kd.R_drewN | apply Kd.R_drew)); exact HO115.out) hb); have n2_ := Aside0.mk (Kd.R_lower ho0 (below_size (by repeat (first | (with_reducible first | exact HB.out | apply below_alloc | apply pw_below_drewN | apply below_drew1) | exact HB.out)))); have n3_ := Aside0.mk (below_step (by repeat (first | (with_reducible first | exact HB.out | apply below_alloc | apply pw_below_drewN | apply below_drew1) | exact HB.out)) hb); clear HO112; clear HO115; clear HB; have HO112 := n0_; have HO115 := n1_; have HO118 := n2_; have HB := n3_; clear n0_ n1_ n2_ n3_; (try clear hb); (try clear hb2); (try clear hk); (try clear hi); (try clear ho0); obtain ⟨Ao81, co81, eo81⟩ := Kd.R_slice HO118.out; subst eo81; have p119 : 0 ≤ (1 : Int) := (by omega); have q119 : 1 < (t116.length : Int) := of_decide_eq_true (by first | (with_reducible assumption) | assumption); obtain ⟨ad119, e119, hx119_0, hx119_1⟩ := at_T37 (Kd.R_reads' HO118.out).2.2 1 p119 q119; cases e119; (try simp only [show (1 : Int).toNat = 1 from rfl, Nat.reduceMul, Nat.reduceEqDiff, Go.Addr.add, ↓reduceIte] at hx119_0); (try simp only [show (1 : Int).toNat = 1 from rfl, Nat.reduceMul, Nat.reduceEqDiff, Go.Addr.add, ↓reduceIte] at hx119_1); have qi119 : (1 < t116.length) = True := eq_true (by omega); (try rw [show ((1 : Int)).toNat = 1 from rfl] at hx119_0); (try rw [show 1 * 2 = 2 from rfl] at hx119_0); (try rw [show ((1 : Int)).toNat = 1 from rfl] at hx119_1); (try rw [show 1 * 2 = 2 from rfl] at hx119_1); replace p119 := eq_true p119; replace q119 := eq_true q119; have p120 : 0 ≤ (2 : Int) := (by omega); have q120 : 2 < (t116.length : Int) := of_decide_eq_true (by first | (with_reducible assumption) | assumption); obtain ⟨ad120, e120, hx120_0, hx120_1⟩ := at_T37 (Kd.R_reads' HO118.out).2.2 2 p120 q120; obtain rfl : ad119 = ad120 := (by injection e120); (try simp only [show (2 : Int).toNat = 2 from rfl, Nat.reduceMul, Nat.reduceEqDiff, Go.Addr.add, ↓reduceIte] at hx120_0); (try simp only [show (2 : Int).toNat = 2 from rfl, Nat.reduceMul, Nat.reduceEqDiff, Go.Addr.add, ↓reduceIte] at hx120_1); have qi120 : (2 < t116.length) = True := eq_true (by omega); (try rw [show ((2 : Int)).toNat = 2 from rfl] at hx120_0); (try rw [show 2 * 2 = 4 from rfl] at hx120_0); (try rw [show ((2 : Int)).toNat = 2 from rfl] at hx120_1); (try rw [show 2 * 2 = 4 from rfl] at hx120_1); replace p120 := eq_true p120; replace q120 := eq_true q120; have p121 : 0 ≤ (3 : Int) := (by omega); have q121 : 3 < (t116.length : Int) := of_decide_eq_true (by first | (with_reducible assumption) | assumption); obtain ⟨ad121, e121, hx121_0, hx121_1⟩ := at_T37 (Kd.R_reads' HO118.out).2.2 3 p121 q121; obtain rfl : ad119 = ad121 := (by injection e121); (try simp only [show (3 : Int).toNat = 3 from rfl, Nat.reduceMul, Nat.reduceEqDiff, Go.Addr.add, ↓reduceIte] at hx121_0); (try simp only [show (3 : Int).toNat = 3 from rfl, Nat.reduceMul, Nat.reduceEqDiff, Go.Addr.add, ↓reduceIte] at hx121_1); have qi121 : (3 < t116.length) = True := eq_true (by omega); (try rw [show ((3 : Int)).toNat = 3 from rfl] at hx121_0); (try rw [show 3 * 2 = 6 from rfl] at hx121_0); (try rw [show ((3 : Int)).toNat = 3 from rfl] at hx121_1); (try rw [show 3 * 2 = 6 from rfl] at hx121_1); replace p121 := eq_true p121; replace q121 := eq_true q121))
                go_ret
                exact ⟨by first | rfl | (simp [errW_none, errW_some] <;> rfl) | (simp [*, errW_none, errW_some] <;> rfl), by repeat (first | (with_reducible first | exact HB.out | apply below_alloc | apply pw_below_drewN | apply below_drew1) | exact HB.out)⟩
            · rw [if_neg c7] at H
              exact absurd H (by simp)
          · rw [if_neg c6] at H
            have c6b0 : (((rd_T37 t116 2).f0) == 0) = false := beq_eq_false_iff_ne.mpr c6
            have c6b1 : (((rd_T37 t116 2).f0) != 0) = true := bne_iff_ne.mpr c6
            obtain rfl := Option.some.inj H
            go_enter Try.func8, Try.ntmps8
            go_wp2_with (first | ((with_reducible refine gate_dst (N := 3) rfl ?_); (try (refine gate_guard (by rfl) ?_; dsimp only)); refine Kd.R_lit (Kd.int .i64) _ 3 ?hg (N := 3) ?hd (xs := ([1, 0, (-1)] : List Int)) (inner := [.int .i64 1, .int .i64 0, .int .i64 (-1)]) (ok := fun _ => True) (okp := fun _ => True) ?hr ?hp (fun _ hk => hk) trivial (Below.refl _ _) (Nat.le_refl _) (by simp) ?_; (case hd => rfl); (case hg => rfl); (case hr => first | (go_simp; done) | (go_simp; rfl)); (case hp => exact (Reps.one (show Kd.M (Kd.int .i64) _ _ _ 1 [.int .i64 1] from rfl) (Reps.one (show Kd.M (Kd.int .i64) _ _ _ 0 [.int .i64 0] from rfl) (Reps.one (show Kd.M (Kd.int .i64) _ _ _ (-1) [.int .i64 (-1)] from rfl) (Reps.none _ _))))); intro v105 w82 ho83 hb hg_ hnew_; clear hg_ hnew_; (first | rw [← Ny104.out] at ho83 | (simp only [Int.reduceToNat] at ho83; rw [← Ny104.out] at ho83)); have n0_ := Aside0.mk (Kd.R_lower ho83 (below_size (by repeat (first | (with_reducible first | exact HB.out | apply below_alloc | apply pw_below_drewN | apply below_drew1) | exact HB.out)))); have n1_ := Aside0.mk (below_step (by repeat (first | (with_reducible first | exact HB.out | apply below_alloc | apply pw_below_drewN | apply below_drew1) | exact HB.out)) hb); clear HB; have HO106 := n0_; have HB := n1_; clear n0_ n1_; clear hb ho83) | ((with_reducible refine gate_dst (N := 4) rfl ?_); (try (refine gate_guard (by rfl) ?_; dsimp only)); refine Kd.R_lit (Kd.int .i64) _ 3 ?hg (N := 4) ?hd (xs := ([1, (-1)] : List Int)) (inner := [.int .i64 1, .int .i64 (-1)]) (ok := fun _ => True) (okp := fun _ => True) ?hr ?hp (fun _ hk => hk) trivial (Below.refl _ _) (Nat.le_refl _) (by simp) ?_; (case hd => rfl); (case hg => rfl); (case hr => first | (go_simp; done) | (go_simp; rfl)); (case hp => exact (Reps.one (show Kd.M (Kd.int .i64) _ _ _ 1 [.int .i64 1] from rfl) (Reps.one (show Kd.M (Kd.int .i64) _ _ _ (-1) [.int .i64 (-1)] from rfl) (Reps.none _ _)))); intro v108 w84 ho85 hb hg_ hnew_; clear hg_ hnew_; (first | rw [← Ny107.out] at ho85 | (simp only [Int.reduceToNat] at ho85; rw [← Ny107.out] at ho85)); have n0_ := Aside0.mk (Kd.R_elder' (by (with_reducible repeat (first | apply Kd.R_alloc | apply Kd.R_drewN | apply Kd.R_drew)); exact HO106.out) (Kd.R_base ho85) hb); have n1_ := Aside0.mk (Kd.R_lower (Kd.R_new' ho85 (Kd.R_lt (by (with_reducible repeat (first | apply Kd.R_alloc | apply Kd.R_drewN | apply Kd.R_drew)); exact HO106.out))) (below_size (by repeat (first | (with_reducible first | exact HB.out | apply below_alloc | apply pw_below_drewN | apply below_drew1) | exact HB.out)))); have n2_ := Aside0.mk (below_step (by repeat (first | (with_reducible first | exact HB.out | apply below_alloc | apply pw_below_drewN | apply below_drew1) | exact HB.out)) hb); clear HO106; clear HB; have HO106 := n0_; have HO109 := n1_; have HB := n2_; clear n0_ n1_ n2_; clear hb ho85; obtain ⟨Ao86, co86, eo86⟩ := Kd.R_slice HO106.out; subst eo86; obtain ⟨Ao87, co87, eo87⟩ := Kd.R_slice HO109.out; subst eo87) | ((with_reducible refine gate_dst (N := 5) rfl ?_); (try (refine gate_guard (by rfl) ?_; dsimp only)); refine Kd.N_lit (Kd.slice 3 (Kd.int .i64)) _ 23 ?hg (N' := 5) ?hd (xs := ([y104, y107] : List (List Int))) (inner := [.slice Ao86 y104.length co86, .slice Ao87 y107.length co87]) (ok := (fun _ => True)) (okp := (fun _ => True)) ?hr ?hp (fun _ hk => hk) ((show ∀ k_, w84.heap.size ≤ k_ → (fun _ => True) k_ from fun k_ hk => trivial) _ (Nat.le_refl _)) (Below.refl _ _) (Nat.le_refl _) (by simp) ?_; (case hd => rfl); (case hg => rfl); (case hr => first | (go_simp; done) | (go_simp; rfl)); (case hp => exact (Reps.one (show Kd.FK (Kd.slice 3 (Kd.int .i64)) _ _ y104 [.slice Ao86 y104.length co86] from (Kd.FK_slice_mk (Kd.R_reads' (Kd.R_mono (ok' := (fun _ => True)) (HO106.out) (fun k_ hk => trivial))).2.1 (Kd.R_F (Kd.R_mono (ok' := (fun _ => True)) (HO106.out) (fun k_ hk => trivial))))) (Reps.one (show Kd.FK (Kd.slice 3 (Kd.int .i64)) _ _ y107 [.slice Ao87 y107.length co87] from (Kd.FK_slice_mk (Kd.R_reads' (Kd.R_mono (ok' := (fun _ => True)) (HO109.out) (fun k_ hk => trivial))).2.1 (Kd.R_F (Kd.R_mono (ok' := (fun _ => True)) (HO109.out) (fun k_ hk => trivial))))) (Reps.none _ _)))); intro v111 w88 ho89 hb hg_ hnew_; clear hg_ hnew_; (first | rw [← Ny110.out] at ho89 | (simp only [Int.reduceToNat] at ho89; rw [← Ny110.out] at ho89)); have n0_ := Aside0.mk (Kd.N_lower ho89 (below_size (by repeat (first | (with_reducible first | exact HB.out | apply below_alloc | apply pw_below_drewN | apply below_drew1) | exact HB.out)))); have n1_ := Aside0.mk (below_step (by repeat (first | (with_reducible first | exact HB.out | apply below_alloc | apply pw_below_drewN | apply below_drew1) | exact HB.out)) hb); clear HB; clear HO106; clear HO109; have HO112 := n0_; have HB := n1_; clear n0_ n1_; clear hb ho89) | ((with_reducible refine gate_dst (N := 7) rfl ?_); (try (refine gate_guard (by rfl) ?_; dsimp only)); refine Kd.R_lit (Kd.int .i64) _ 3 ?hg (N := 7) ?hd (xs := ([0, 1, 1] : List Int)) (inner := [.int .i64 0, .int .i64 1, .int .i64 1]) (ok := fun _ => True) (okp := fun _ => True) ?hr ?hp (fun _ hk => hk) trivial (Below.refl _ _) (Nat.le_refl _) (by simp) ?_; (case hd => rfl); (case hg => rfl); (case hr => first | (go_simp; done) | (go_simp; rfl)); (case hp => exact (Reps.one (show Kd.M (Kd.int .i64) _ _ _ 0 [.int .i64 0] from rfl) (Reps.one (show Kd.M (Kd.int .i64) _ _ _ 1 [.int .i64 1] from rfl) (Reps.one (show Kd.M (Kd.int .i64) _ _ _ 1 [.int .i64 1] from rfl) (Reps.none _ _))))); intro v114 w90 ho91 hb hg_ hnew_; clear hg_ hnew_; (first | rw [← Ny113.out] at ho91 | (simp only [Int.reduceToNat] at ho91; rw [← Ny113.out] at ho91)); have n0_ := Aside0.mk (Kd.N_elder' (by (with_reducible repeat (first | apply Kd.N_alloc | apply Kd.N_drewN | apply Kd.N_drew)); exact HO112.out) (Kd.R_base ho91) hb); have n1_ := Aside0.mk (Kd.R_lower ho91 (below_size (by repeat (first | (with_reducible first | exact HB.out | apply below_alloc | apply pw_below_drewN | apply below_drew1) | exact HB.out)))); have n2_ := Aside0.mk (below_step (by repeat (first | (with_reducible first | exact HB.out | apply below_alloc | apply pw_below_drewN | apply below_drew1) | exact HB.out)) hb); clear HO112; clear HB; have HO112 := n0_; have HO115 := n1_; have HB := n2_; clear n0_ n1_ n2_; clear hb ho91; obtain ⟨Ao92, co92, eo92⟩ := Kd.N_slice HO112.out; subst eo92; obtain ⟨Ao93, co93, eo93⟩ := Kd.R_slice HO115.out; subst eo93) | ((with_reducible refine gate_callee (f := 11) rfl ?_); refine goesL_ (some 8) rfl rfl Try.func11 (by kernel_rfl) rfl #[.slice Ao92 y110.length co92, .slice Ao93 y113.length co93] rfl (by (try simp only [List.map_toArray, List.map_cons, List.map_nil]); first | done | rfl | (simp only [List.length_drop, List.length_take]; rfl)) ?_; (with_reducible refine (sched_Order.calls _ _ y110 _ _ y113 t116 _ ?side1 ?side2 ?side3 ?side4 A1.out).mono ?_); (case side1 => repeat (first | exact (Kd.N_reads' HO112.out).2.2 | (with_reducible refine Kd.C_alloc ?_ _) | (with_reducible refine Kd.C_drewN ?_ _) | (with_reducible refine Kd.C_drew ?_))); (case side2 => exact (Kd.N_reads' HO112.out).2.1); (case side3 => repeat (first | exact (Kd.R_reads' HO115.out).2.2 | (with_reducible refine Kd.C_alloc ?_ _) | (with_reducible refine Kd.C_drewN ?_ _) | (with_reducible refine Kd.C_drew ?_))); (case side4 => exact (Kd.R_reads' HO115.out).2.1); rintro e w94 ⟨v117, rfl, ho0, hb⟩; refine ⟨_, rfl, ?_⟩; have n0_ := Aside0.mk (Kd.N_elder' (by (with_reducible repeat (first | apply Kd.N_alloc | apply Kd.N_drewN | apply Kd.N_drew)); exact HO112.out) (Kd.R_base ho0) hb); have n1_ := Aside0.mk (Kd.R_below (by (with_reducible repeat (first | apply Kd.R_alloc | apply Kd.R_drewN | apply Kd.R_drew)); exact HO115.out) hb); have n2_ := Aside0.mk (Kd.R_lower ho0 (below_size (by repeat (first | (with_reducible first | exact HB.out | apply below_alloc | apply pw_below_drewN | apply below_drew1) | exact HB.out)))); have n3_ := Aside0.mk (below_step (by repeat (first | (with_reducible first | exact HB.out | apply below_alloc | apply pw_below_drewN | apply below_drew1) | exact HB.out)) hb); clear HO112; clear HO115; clear HB; have HO112 := n0_; have HO115 := n1_; have HO118 := n2_; have HB := n3_; clear n0_ n1_ n2_ n3_; (try clear hb); (try clear hb2); (try clear hk); (try clear hi); (try clear ho0); obtain ⟨Ao95, co95, eo95⟩ := Kd.R_slice HO118.out; subst eo95; have p119 : 0 ≤ (1 : Int) := (by omega); have q119 : 1 < (t116.length : Int) := of_decide_eq_true (by first | (with_reducible assumption) | assumption); obtain ⟨ad119, e119, hx119_0, hx119_1⟩ := at_T37 (Kd.R_reads' HO118.out).2.2 1 p119 q119; cases e119; (try simp only [show (1 : Int).toNat = 1 from rfl, Nat.reduceMul, Nat.reduceEqDiff, Go.Addr.add, ↓reduceIte] at hx119_0); (try simp only [show (1 : Int).toNat = 1 from rfl, Nat.reduceMul, Nat.reduceEqDiff, Go.Addr.add, ↓reduceIte] at hx119_1); have qi119 : (1 < t116.length) = True := eq_true (by omega); (try rw [show ((1 : Int)).toNat = 1 from rfl] at hx119_0); (try rw [show 1 * 2 = 2 from rfl] at hx119_0); (try rw [show ((1 : Int)).toNat = 1 from rfl] at hx119_1); (try rw [show 1 * 2 = 2 from rfl] at hx119_1); replace p119 := eq_true p119; replace q119 := eq_true q119; have p120 : 0 ≤ (2 : Int) := (by omega); have q120 : 2 < (t116.length : Int) := of_decide_eq_true (by first | (with_reducible assumption) | assumption); obtain ⟨ad120, e120, hx120_0, hx120_1⟩ := at_T37 (Kd.R_reads' HO118.out).2.2 2 p120 q120; obtain rfl : ad119 = ad120 := (by injection e120); (try simp only [show (2 : Int).toNat = 2 from rfl, Nat.reduceMul, Nat.reduceEqDiff, Go.Addr.add, ↓reduceIte] at hx120_0); (try simp only [show (2 : Int).toNat = 2 from rfl, Nat.reduceMul, Nat.reduceEqDiff, Go.Addr.add, ↓reduceIte] at hx120_1); have qi120 : (2 < t116.length) = True := eq_true (by omega); (try rw [show ((2 : Int)).toNat = 2 from rfl] at hx120_0); (try rw [show 2 * 2 = 4 from rfl] at hx120_0); (try rw [show ((2 : Int)).toNat = 2 from rfl] at hx120_1); (try rw [show 2 * 2 = 4 from rfl] at hx120_1); replace p120 := eq_true p120; replace q120 := eq_true q120))
            go_ret
            exact ⟨by first | rfl | (simp [errW_none, errW_some] <;> rfl) | (simp [*, errW_none, errW_some] <;> rfl), by repeat (first | (with_reducible first | exact HB.out | apply below_alloc | apply pw_below_drewN | apply below_drew1) | exact HB.out)⟩
        · rw [if_neg c5] at H
          exact absurd H (by simp)
      · rw [if_neg c4] at H
        have c4b0 : (((rd_T37 t116 1).f0) == 0 && (((rd_T37 t116 1).f1) == 1)) = false := by simpa using c4
        (try (have c4b1 : decide (((rd_T37 t116 1).f0) = 0 && (((rd_T37 t116 1).f1) == 1)) = false := by simpa using c4))
        (try (have c4b2 : (((rd_T37 t116 1).f0) == 0 && (((rd_T37 t116 1).f1) == 1)) = false := by simpa using c4))
        (try (have c4b3 : ¬ (((rd_T37 t116 1).f0) = 0 && (((rd_T37 t116 1).f1) == 1)) := by simpa using c4))
        clear c4
        obtain rfl := Option.some.inj H
        go_enter Try.func8, Try.ntmps8
        go_wp2_with (first | ((with_reducible refine gate_dst (N := 3) rfl ?_); (try (refine gate_guard (by rfl) ?_; dsimp only)); refine Kd.R_lit (Kd.int .i64) _ 3 ?hg (N := 3) ?hd (xs := ([1, 0, (-1)] : List Int)) (inner := [.int .i64 1, .int .i64 0, .int .i64 (-1)]) (ok := fun _ => True) (okp := fun _ => True) ?hr ?hp (fun _ hk => hk) trivial (Below.refl _ _) (Nat.le_refl _) (by simp) ?_; (case hd => rfl); (case hg => rfl); (case hr => first | (go_simp; done) | (go_simp; rfl)); (case hp => exact (Reps.one (show Kd.M (Kd.int .i64) _ _ _ 1 [.int .i64 1] from rfl) (Reps.one (show Kd.M (Kd.int .i64) _ _ _ 0 [.int .i64 0] from rfl) (Reps.one (show Kd.M (Kd.int .i64) _ _ _ (-1) [.int .i64 (-1)] from rfl) (Reps.none _ _))))); intro v105 w96 ho97 hb hg_ hnew_; clear hg_ hnew_; (first | rw [← Ny104.out] at ho97 | (simp only [Int.reduceToNat] at ho97; rw [← Ny104.out] at ho97)); have n0_ := Aside0.mk (Kd.R_lower ho97 (below_size (by repeat (first | (with_reducible first | exact HB.out | apply below_alloc | apply pw_below_drewN | apply below_drew1) | exact HB.out)))); have n1_ := Aside0.mk (below_step (by repeat (first | (with_reducible first | exact HB.out | apply below_alloc | apply pw_below_drewN | apply below_drew1) | exact HB.out)) hb); clear HB; have HO106 := n0_; have HB := n1_; clear n0_ n1_; clear hb ho97) | ((with_reducible refine gate_dst (N := 4) rfl ?_); (try (refine gate_guard (by rfl) ?_; dsimp only)); refine Kd.R_lit (Kd.int .i64) _ 3 ?hg (N := 4) ?hd (xs := ([1, (-1)] : List Int)) (inner := [.int .i64 1, .int .i64 (-1)]) (ok := fun _ => True) (okp := fun _ => True) ?hr ?hp (fun _ hk => hk) trivial (Below.refl _ _) (Nat.le_refl _) (by simp) ?_; (case hd => rfl); (case hg => rfl); (case hr => first | (go_simp; done) | (go_simp; rfl)); (case hp => exact (Reps.one (show Kd.M (Kd.int .i64) _ _ _ 1 [.int .i64 1] from rfl) (Reps.one (show Kd.M (Kd.int .i64) _ _ _ (-1) [.int .i64 (-1)] from rfl) (Reps.none _ _)))); intro v108 w98 ho99 hb hg_ hnew_; clear hg_ hnew_; (first | rw [← Ny107.out] at ho99 | (simp only [Int.reduceToNat] at ho99; rw [← Ny107.out] at ho99)); have n0_ := Aside0.mk (Kd.R_elder' (by (with_reducible repeat (first | apply Kd.R_alloc | apply Kd.R_drewN | apply Kd.R_drew)); exact HO106.out) (Kd.R_base ho99) hb); have n1_ := Aside0.mk (Kd.R_lower (Kd.R_new' ho99 (Kd.R_lt (by (with_reducible repeat (first | apply Kd.R_alloc | apply Kd.R_drewN | apply Kd.R_drew)); exact HO106.out))) (below_size (by repeat (first | (with_reducible first | exact HB.out | apply below_alloc | apply pw_below_drewN | apply below_drew1) | exact HB.out)))); have n2_ := Aside0.mk (below_step (by repeat (first | (with_reducible first | exact HB.out | apply below_alloc | apply pw_below_drewN | apply below_drew1) | exact HB.out)) hb); clear HO106; clear HB; have HO106 := n0_; have HO109 := n1_; have HB := n2_; clear n0_ n1_ n2_; clear hb ho99; obtain ⟨Ao100, co100, eo100⟩ := Kd.R_slice HO106.out; subst eo100; obtain ⟨Ao101, co101, eo101⟩ := Kd.R_slice HO109.out; subst eo101) | ((with_reducible refine gate_dst (N := 5) rfl ?_); (try (refine gate_guard (by rfl) ?_; dsimp only)); refine Kd.N_lit (Kd.slice 3 (Kd.int .i64)) _ 23 ?hg (N' := 5) ?hd (xs := ([y104, y107] : List (List Int))) (inner := [.slice Ao100 y104.length co100, .slice Ao101 y107.length co101]) (ok := (fun _ => True)) (okp := (fun _ => True)) ?hr ?hp (fun _ hk => hk) ((show ∀ k_, w98.heap.size ≤ k_ → (fun _ => True) k_ from fun k_ hk => trivial) _ (Nat.le_refl _)) (Below.refl _ _) (Nat.le_refl _) (by simp) ?_; (case hd => rfl); (case hg => rfl); (case hr => first | (go_simp; done) | (go_simp; rfl)); (case hp => exact (Reps.one (show Kd.FK (Kd.slice 3 (Kd.int .i64)) _ _ y104 [.slice Ao100 y104.length co100] from (Kd.FK_slice_mk (Kd.R_reads' (Kd.R_mono (ok' := (fun _ => True)) (HO106.out) (fun k_ hk => trivial))).2.1 (Kd.R_F (Kd.R_mono (ok' := (fun _ => True)) (HO106.out) (fun k_ hk => trivial))))) (Reps.one (show Kd.FK (Kd.slice 3 (Kd.int .i64)) _ _ y107 [.slice Ao101 y107.length co101] from (Kd.FK_slice_mk (Kd.R_reads' (Kd.R_mono (ok' := (fun _ => True)) (HO109.out) (fun k_ hk => trivial))).2.1 (Kd.R_F (Kd.R_mono (ok' := (fun _ => True)) (HO109.out) (fun k_ hk => trivial))))) (Reps.none _ _)))); intro v111 w102 ho103 hb hg_ hnew_; clear hg_ hnew_; (first | rw [← Ny110.out] at ho103 | (simp only [Int.reduceToNat] at ho103; rw [← Ny110.out] at ho103)); have n0_ := Aside0.mk (Kd.N_lower ho103 (below_size (by repeat (first | (with_reducible first | exact HB.out | apply below_alloc | apply pw_below_drewN | apply below_drew1) | exact HB.out)))); have n1_ := Aside0.mk (below_step (by repeat (first | (with_reducible first | exact HB.out | apply below_alloc | apply pw_below_drewN | apply below_drew1) | exact HB.out)) hb); clear HB; clear HO106; clear HO109; have HO112 := n0_; have HB := n1_; clear n0_ n1_; clear hb ho103) | ((with_reducible refine gate_dst (N := 7) rfl ?_); (try (refine gate_guard (by rfl) ?_; dsimp only)); refine Kd.R_lit (Kd.int .i64) _ 3 ?hg (N := 7) ?hd (xs := ([0, 1, 1] : List Int)) (inner := [.int .i64 0, .int .i64 1, .int .i64 1]) (ok := fun _ => True) (okp := fun _ => True) ?hr ?hp (fun _ hk => hk) trivial (Below.refl _ _) (Nat.le_refl _) (by simp) ?_; (case hd => rfl); (case hg => rfl); (case hr => first | (go_simp; done) | (go_simp; rfl)); (case hp => exact (Reps.one (show Kd.M (Kd.int .i64) _ _ _ 0 [.int .i64 0] from rfl) (Reps.one (show Kd.M (Kd.int .i64) _ _ _ 1 [.int .i64 1] from rfl) (Reps.one (show Kd.M (Kd.int .i64) _ _ _ 1 [.int .i64 1] from rfl) (Reps.none _ _))))); intro v114 w104 ho105 hb hg_ hnew_; clear hg_ hnew_; (first | rw [← Ny113.out] at ho105 | (simp only [Int.reduceToNat] at ho105; rw [← Ny113.out] at ho105)); have n0_ := Aside0.mk (Kd.N_elder' (by (with_reducible repeat (first | apply Kd.N_alloc | apply Kd.N_drewN | apply Kd.N_drew)); exact HO112.out) (Kd.R_base ho105) hb); have n1_ := Aside0.mk (Kd.R_lower ho105 (below_size (by repeat (first | (with_reducible first | exact HB.out | apply below_alloc | apply pw_below_drewN | apply below_drew1) | exact HB.out)))); have n2_ := Aside0.mk (below_step (by repeat (first | (with_reducible first | exact HB.out | apply below_alloc | apply pw_below_drewN | apply below_drew1) | exact HB.out)) hb); clear HO112; clear HB; have HO112 := n0_; have HO115 := n1_; have HB := n2_; clear n0_ n1_ n2_; clear hb ho105; obtain ⟨Ao106, co106, eo106⟩ := Kd.N_slice HO112.out; subst eo106; obtain ⟨Ao107, co107, eo107⟩ := Kd.R_slice HO115.out; subst eo107) | ((with_reducible refine gate_callee (f := 11) rfl ?_); refine goesL_ (some 8) rfl rfl Try.func11 (by kernel_rfl) rfl #[.slice Ao106 y110.length co106, .slice Ao107 y113.length co107] rfl (by (try simp only [List.map_toArray, List.map_cons, List.map_nil]); first | done | rfl | (simp only [List.length_drop, List.length_take]; rfl)) ?_; (with_reducible refine (sched_Order.calls _ _ y110 _ _ y113 t116 _ ?side1 ?side2 ?side3 ?side4 A1.out).mono ?_); (case side1 => repeat (first | exact (Kd.N_reads' HO112.out).2.2 | (with_reducible refine Kd.C_alloc ?_ _) | (with_reducible refine Kd.C_drewN ?_ _) | (with_reducible refine Kd.C_drew ?_))); (case side2 => exact (Kd.N_reads' HO112.out).2.1); (case side3 => repeat (first | exact (Kd.R_reads' HO115.out).2.2 | (with_reducible refine Kd.C_alloc ?_ _) | (with_reducible refine Kd.C_drewN ?_ _) | (with_reducible refine Kd.C_drew ?_))); (case side4 => exact (Kd.R_reads' HO115.out).2.1); rintro e w108 ⟨v117, rfl, ho0, hb⟩; refine ⟨_, rfl, ?_⟩; have n0_ := Aside0.mk (Kd.N_elder' (by (with_reducible repeat (first | apply Kd.N_alloc | apply Kd.N_drewN | apply Kd.N_drew)); exact HO112.out) (Kd.R_base ho0) hb); have n1_ := Aside0.mk (Kd.R_below (by (with_reducible repeat (first | apply Kd.R_alloc | apply Kd.R_drewN | apply Kd.R_drew)); exact HO115.out) hb); have n2_ := Aside0.mk (Kd.R_lower ho0 (below_size (by repeat (first | (with_reducible first | exact HB.out | apply below_alloc | apply pw_below_drewN | apply below_drew1) | exact HB.out)))); have n3_ := Aside0.mk (below_step (by repeat (first | (with_reducible first | exact HB.out | apply below_alloc | apply pw_below_drewN | apply below_drew1) | exact HB.out)) hb); clear HO112; clear HO115; clear HB; have HO112 := n0_; have HO115 := n1_; have HO118 := n2_; have HB := n3_; clear n0_ n1_ n2_ n3_; (try clear hb); (try clear hb2); (try clear hk); (try clear hi); (try clear ho0); obtain ⟨Ao109, co109, eo109⟩ := Kd.R_slice HO118.out; subst eo109; have p119 : 0 ≤ (1 : Int) := (by omega); have q119 : 1 < (t116.length : Int) := of_decide_eq_true (by first | (with_reducible assumption) | assumption); obtain ⟨ad119, e119, hx119_0, hx119_1⟩ := at_T37 (Kd.R_reads' HO118.out).2.2 1 p119 q119; cases e119; (try simp only [show (1 : Int).toNat = 1 from rfl, Nat.reduceMul, Nat.reduceEqDiff, Go.Addr.add, ↓reduceIte] at hx119_0); (try simp only [show (1 : Int).toNat = 1 from rfl, Nat.reduceMul, Nat.reduceEqDiff, Go.Addr.add, ↓reduceIte] at hx119_1); have qi119 : (1 < t116.length) = True := eq_true (by omega); (try rw [show ((1 : Int)).toNat = 1 from rfl] at hx119_0); (try rw [show 1 * 2 = 2 from rfl] at hx119_0); (try rw [show ((1 : Int)).toNat = 1 from rfl] at hx119_1); (try rw [show 1 * 2 = 2 from rfl] at hx119_1); replace p119 := eq_true p119; replace q119 := eq_true q119))
        go_ret
        exact ⟨by first | rfl | (simp [errW_none, errW_some] <;> rfl) | (simp [*, errW_none, errW_some] <;> rfl), by repeat (first | (with_reducible first | exact HB.out | apply below_alloc | apply pw_below_drewN | apply below_drew1) | exact HB.out)⟩
    · rw [if_neg c3] at H
      exact absurd H (by simp)
  · rw [if_neg c2] at H
    have c2b0 : ((t116.length : Int) == 5) = false := beq_eq_false_iff_ne.mpr c2
    have c2b1 : ((t116.length : Int) != 5) = true := bne_iff_ne.mpr c2
    obtain rfl := Option.some.inj H
    go_enter Try.func8, Try.ntmps8
    go_wp2_with (first | ((with_reducible refine gate_dst (N := 3) rfl ?_); (try (refine gate_guard (by rfl) ?_; dsimp only)); refine Kd.R_lit (Kd.int .i64) _ 3 ?hg (N := 3) ?hd (xs := ([1, 0, (-1)] : List Int)) (inner := [.int .i64 1, .int .i64 0, .int .i64 (-1)]) (ok := fun _ => True) (okp := fun _ => True) ?hr ?hp (fun _ hk => hk) trivial (Below.refl _ _) (Nat.le_refl _) (by simp) ?_; (case hd => rfl); (case hg => rfl); (case hr => first | (go_simp; done) | (go_simp; rfl)); (case hp => exact (Reps.one (show Kd.M (Kd.int .i64) _ _ _ 1 [.int .i64 1] from rfl) (Reps.one (show Kd.M (Kd.int .i64) _ _ _ 0 [.int .i64 0] from rfl) (Reps.one (show Kd.M (Kd.int .i64) _ _ _ (-1) [.int .i64 (-1)] from rfl) (Reps.none _ _))))); intro v105 w110 ho111 hb hg_ hnew_; clear hg_ hnew_; (first | rw [← Ny104.out] at ho111 | (simp only [Int.reduceToNat] at ho111; rw [← Ny104.out] at ho111)); have n0_ := Aside0.mk (Kd.R_lower ho111 (below_size (by repeat (first | (with_reducible first | exact HB.out | apply below_alloc | apply pw_below_drewN | apply below_drew1) | exact HB.out)))); have n1_ := Aside0.mk (below_step (by repeat (first | (with_reducible first | exact HB.out | apply below_alloc | apply pw_below_drewN | apply below_drew1) | exact HB.out)) hb); clear HB; have HO106 := n0_; have HB := n1_; clear n0_ n1_; clear hb ho111) | ((with_reducible refine gate_dst (N := 4) rfl ?_); (try (refine gate_guard (by rfl) ?_; dsimp only)); refine Kd.R_lit (Kd.int .i64) _ 3 ?hg (N := 4) ?hd (xs := ([1, (-1)] : List Int)) (inner := [.int .i64 1, .int .i64 (-1)]) (ok := fun _ => True) (okp := fun _ => True) ?hr ?hp (fun _ hk => hk) trivial (Below.refl _ _) (Nat.le_refl _) (by simp) ?_; (case hd => rfl); (case hg => rfl); (case hr => first | (go_simp; done) | (go_simp; rfl)); (case hp => exact (Reps.one (show Kd.M (Kd.int .i64) _ _ _ 1 [.int .i64 1] from rfl) (Reps.one (show Kd.M (Kd.int .i64) _ _ _ (-1) [.int .i64 (-1)] from rfl) (Reps.none _ _)))); intro v108 w112 ho113 hb hg_ hnew_; clear hg_ hnew_; (first | rw [← Ny107.out] at ho113 | (simp only [Int.reduceToNat] at ho113; rw [← Ny107.out] at ho113)); have n0_ := Aside0.mk (Kd.R_elder' (by (with_reducible repeat (first | apply Kd.R_alloc | apply Kd.R_drewN | apply Kd.R_drew)); exact HO106.out) (Kd.R_base ho113) hb); have n1_ := Aside0.mk (Kd.R_lower (Kd.R_new' ho113 (Kd.R_lt (by (with_reducible repeat (first | apply Kd.R_alloc | apply Kd.R_drewN | apply Kd.R_drew)); exact HO106.out))) (below_size (by repeat (first | (with_reducible first | exact HB.out | apply below_alloc | apply pw_below_drewN | apply below_drew1) | exact HB.out)))); have n2_ := Aside0.mk (below_step (by repeat (first | (with_reducible first | exact HB.out | apply below_alloc | apply pw_below_drewN | apply below_drew1) | exact HB.out)) hb); clear HO106; clear HB; have HO106 := n0_; have HO109 := n1_; have HB := n2_; clear n0_ n1_ n2_; clear hb ho113; obtain ⟨Ao114, co114, eo114⟩ := Kd.R_slice HO106.out; subst eo114; obtain ⟨Ao115, co115, eo115⟩ := Kd.R_slice HO109.out; subst eo115) | ((with_reducible refine gate_dst (N := 5) rfl ?_); (try (refine gate_guard (by rfl) ?_; dsimp only)); refine Kd.N_lit (Kd.slice 3 (Kd.int .i64)) _ 23 ?hg (N' := 5) ?hd (xs := ([y104, y107] : List (List Int))) (inner := [.slice Ao114 y104.length co114, .slice Ao115 y107.length co115]) (ok := (fun _ => True)) (okp := (fun _ => True)) ?hr ?hp (fun _ hk => hk) ((show ∀ k_, w112.heap.size ≤ k_ → (fun _ => True) k_ from fun k_ hk => trivial) _ (Nat.le_refl _)) (Below.refl _ _) (Nat.le_refl _) (by simp) ?_; (case hd => rfl); (case hg => rfl); (case hr => first | (go_simp; done) | (go_simp; rfl)); (case hp => exact (Reps.one (show Kd.FK (Kd.slice 3 (Kd.int .i64)) _ _ y104 [.slice Ao114 y104.length co114] from (Kd.FK_slice_mk (Kd.R_reads' (Kd.R_mono (ok' := (fun _ => True)) (HO106.out) (fun k_ hk => trivial))).2.1 (Kd.R_F (Kd.R_mono (ok' := (fun _ => True)) (HO106.out) (fun k_ hk => trivial))))) (Reps.one (show Kd.FK (Kd.slice 3 (Kd.int .i64)) _ _ y107 [.slice Ao115 y107.length co115] from (Kd.FK_slice_mk (Kd.R_reads' (Kd.R_mono (ok' := (fun _ => True)) (HO109.out) (fun k_ hk => trivial))).2.1 (Kd.R_F (Kd.R_mono (ok' := (fun _ => True)) (HO109.out) (fun k_ hk => trivial))))) (Reps.none _ _)))); intro v111 w116 ho117 hb hg_ hnew_; clear hg_ hnew_; (first | rw [← Ny110.out] at ho117 | (simp only [Int.reduceToNat] at ho117; rw [← Ny110.out] at ho117)); have n0_ := Aside0.mk (Kd.N_lower ho117 (below_size (by repeat (first | (with_reducible first | exact HB.out | apply below_alloc | apply pw_below_drewN | apply below_drew1) | exact HB.out)))); have n1_ := Aside0.mk (below_step (by repeat (first | (with_reducible first | exact HB.out | apply below_alloc | apply pw_below_drewN | apply below_drew1) | exact HB.out)) hb); clear HB; clear HO106; clear HO109; have HO112 := n0_; have HB := n1_; clear n0_ n1_; clear hb ho117) | ((with_reducible refine gate_dst (N := 7) rfl ?_); (try (refine gate_guard (by rfl) ?_; dsimp only)); refine Kd.R_lit (Kd.int .i64) _ 3 ?hg (N := 7) ?hd (xs := ([0, 1, 1] : List Int)) (inner := [.int .i64 0, .int .i64 1, .int .i64 1]) (ok := fun _ => True) (okp := fun _ => True) ?hr ?hp (fun _ hk => hk) trivial (Below.refl _ _) (Nat.le_refl _) (by simp) ?_; (case hd => rfl); (case hg => rfl); (case hr => first | (go_simp; done) | (go_simp; rfl)); (case hp => exact (Reps.one (show Kd.M (Kd.int .i64) _ _ _ 0 [.int .i64 0] from rfl) (Reps.one (show Kd.M (Kd.int .i64) _ _ _ 1 [.int .i64 1] from rfl) (Reps.one (show Kd.M (Kd.int .i64) _ _ _ 1 [.int .i64 1] from rfl) (Reps.none _ _))))); intro v114 w118 ho119 hb hg_ hnew_; clear hg_ hnew_; (first | rw [← Ny113.out] at ho119 | (simp only [Int.reduceToNat] at ho119; rw [← Ny113.out] at ho119)); have n0_ := Aside0.mk (Kd.N_elder' (by (with_reducible repeat (first | apply Kd.N_alloc | apply Kd.N_drewN | apply Kd.N_drew)); exact HO112.out) (Kd.R_base ho119) hb); have n1_ := Aside0.mk (Kd.R_lower ho119 (below_size (by repeat (first | (with_reducible first | exact HB.out | apply below_alloc | apply pw_below_drewN | apply below_drew1) | exact HB.out)))); have n2_ := Aside0.mk (below_step (by repeat (first | (with_reducible first | exact HB.out | apply below_alloc | apply pw_below_drewN | apply below_drew1) | exact HB.out)) hb); clear HO112; clear HB; have HO112 := n0_; have HO115 := n1_; have HB := n2_; clear n0_ n1_ n2_; clear hb ho119; obtain ⟨Ao120, co120, eo120⟩ := Kd.N_slice HO112.out; subst eo120; obtain ⟨Ao121, co121, eo121⟩ := Kd.R_slice HO115.out; subst eo121) | ((with_reducible refine gate_callee (f := 11) rfl ?_); refine goesL_ (some 8) rfl rfl Try.func11 (by kernel_rfl) rfl #[.slice Ao120 y110.length co120, .slice Ao121 y113.length co121] rfl (by (try simp only [List.map_toArray, List.map_cons, List.map_nil]); first | done | rfl | (simp only [List.length_drop, List.length_take]; rfl)) ?_; (with_reducible refine (sched_Order.calls _ _ y110 _ _ y113 t116 _ ?side1 ?side2 ?side3 ?side4 A1.out).mono ?_); (case side1 => repeat (first | exact (Kd.N_reads' HO112.out).2.2 | (with_reducible refine Kd.C_alloc ?_ _) | (with_reducible refine Kd.C_drewN ?_ _) | (with_reducible refine Kd.C_drew ?_))); (case side2 => exact (Kd.N_reads' HO112.out).2.1); (case side3 => repeat (first | exact (Kd.R_reads' HO115.out).2.2 | (with_reducible refine Kd.C_alloc ?_ _) | (with_reducible refine Kd.C_drewN ?_ _) | (with_reducible refine Kd.C_drew ?_))); (case side4 => exact (Kd.R_reads' HO115.out).2.1); rintro e w122 ⟨v117, rfl, ho0, hb⟩; refine ⟨_, rfl, ?_⟩; have n0_ := Aside0.mk (Kd.N_elder' (by (with_reducible repeat (first | apply Kd.N_alloc | apply Kd.N_drewN | apply Kd.N_drew)); exact HO112.out) (Kd.R_base ho0) hb); have n1_ := Aside0.mk (Kd.R_below (by (with_reducible repeat (first | apply Kd.R_alloc | apply Kd.R_drewN | apply Kd.R_drew)); exact HO115.out) hb); have n2_ := Aside0.mk (Kd.R_lower ho0 (below_size (by repeat (first | (with_reducible first | exact HB.out | apply below_alloc | apply pw_below_drewN | apply below_drew1) | exact HB.out)))); have n3_ := Aside0.mk (below_step (by repeat (first | (with_reducible first | exact HB.out | apply below_alloc | apply pw_below_drewN | apply below_drew1) | exact HB.out)) hb); clear HO112; clear HO115; clear HB; have HO112 := n0_; have HO115 := n1_; have HO118 := n2_; have HB := n3_; clear n0_ n1_ n2_ n3_; (try clear hb); (try clear hb2); (try clear hk); (try clear hi); (try clear ho0); obtain ⟨Ao123, co123, eo123⟩ := Kd.R_slice HO118.out; subst eo123))
    go_ret
    exact ⟨by first | rfl | (simp [errW_none, errW_some] <;> rfl) | (simp [*, errW_none, errW_some] <;> rfl), by repeat (first | (with_reducible first | exact HB.out | apply below_alloc | apply pw_below_drewN | apply below_drew1) | exact HB.out)⟩

/-! ### gatepostref22_Few: function 9 -/
mutual
def gatepostref22_Few.l0 : Nat → List (List Int) → Int → Option (Bool)
  | 0, _, _ => none
  | k + 1, x0, x3 => if x3 < (x0.length : Int) then (gatepostref22_Few.j1 k x0 x3 (decide (x3 < 7))) else (gatepostref22_Few.j1 k x0 x3 false)
def gatepostref22_Few.j1 : Nat → List (List Int) → Int → Bool → Option (Bool)
  | 0, _, _, _ => none
  | k + 1, x0, x3, x11 => if x11 = true then (if 0 ≤ x3 then (if x3 < (x0.length : Int) then (if ((rd_L1 x0 x3).length : Int) > 16 then (some false) else (gatepostref22_Few.l0 k x0 (wrap64 (x3 + 1)))) else (none)) else (none)) else (some (decide ((x0.length : Int) ≤ 6)))
end
def gatepostref22_Few.f (k : Nat) (l0 : List (List Int)) : Option (Bool) := gatepostref22_Few.l0 k l0 0
theorem gatepostref22_Few.mono_l : ∀ k, (∀ y0 y1, LeO (gatepostref22_Few.l0 k y0 y1) (gatepostref22_Few.l0 (k + 1) y0 y1)) ∧ (∀ y0 y1 y2, LeO (gatepostref22_Few.j1 k y0 y1 y2) (gatepostref22_Few.j1 (k + 1) y0 y1 y2))
  | 0 => ⟨fun _ _ r h => by simp [gatepostref22_Few.l0] at h, fun _ _ _ r h => by simp [gatepostref22_Few.j1] at h⟩
  | k + 1 => by
    obtain ⟨ih0, ih1⟩ := gatepostref22_Few.mono_l k
    refine ⟨?_, ?_⟩
    · intro y0 y1
      unfold gatepostref22_Few.l0
      repeat' first
      | (with_reducible exact ih0 _ _)
      | (with_reducible exact ih1 _ _ _)
      | (with_reducible exact LeO.refl _)
      | (with_reducible exact LeO.none _)
      | (with_reducible refine LeO.ite ?_ ?_)
      | (with_reducible refine LeO.bind ?_ (fun _ => ?_))
      | exact ih0 _ _
      | exact ih1 _ _ _
      | exact LeO.none _
      | refine LeO.ite ?_ ?_
      | refine LeO.bind ?_ (fun _ => ?_)
    · intro y0 y1 y2
      unfold gatepostref22_Few.j1
      repeat' first
      | (with_reducible exact ih0 _ _)
      | (with_reducible exact ih1 _ _ _)
      | (with_reducible exact LeO.refl _)
      | (with_reducible exact LeO.none _)
      | (with_reducible refine LeO.ite ?_ ?_)
      | (with_reducible refine LeO.bind ?_ (fun _ => ?_))
      | exact ih0 _ _
      | exact ih1 _ _ _
      | exact LeO.none _
      | refine LeO.ite ?_ ?_
      | refine LeO.bind ?_ (fun _ => ?_)
theorem gatepostref22_Few.mono : ∀ a0 k, LeO (gatepostref22_Few.f k a0) (gatepostref22_Few.f (k + 1) a0) := by
  intro a0 k
  obtain ⟨ih0, ih1⟩ := gatepostref22_Few.mono_l k
  unfold gatepostref22_Few.f
  repeat' first
      | (with_reducible exact ih0 _ _)
      | (with_reducible exact ih1 _ _ _)
      | (with_reducible exact LeO.refl _)
      | (with_reducible exact LeO.none _)
      | (with_reducible refine LeO.ite ?_ ?_)
      | (with_reducible refine LeO.bind ?_ (fun _ => ?_))
      | exact ih0 _ _
      | exact ih1 _ _ _
      | exact LeO.none _
      | refine LeO.ite ?_ ?_
      | refine LeO.bind ?_ (fun _ => ?_)
set_option maxHeartbeats 8000000 in
set_option maxRecDepth 100000 in
theorem gatepostref22_Few.calls (k : Nat) (A0 : Option Addr) (c0 : Nat) (l0 : List (List Int)) (r : Bool) (w : World) (hr0 : Kd.C (Kd.slice 3 (Kd.int .i64)) w A0 l0.length l0) (hc0 : l0.length ≤ c0) (h : gatepostref22_Few.f k l0 = some r) :
    Calls Try.prog 9 #[.slice A0 l0.length c0] w fun e w' => e = .returned (.bool r) ∧ Drawn0 w w' := by
  have HR0 := Aside0.mk hr0
  have HC0 := Aside0.mk hc0
  clear hr0 hc0
  have H : (gatepostref22_Few.l0 k l0 0) = some r := h
  clear h
  have H' := Aside0.mk H
  clear H
  go_enter Try.func9, Try.ntmps9
  go_wp2
  go_loopg [3] k (fun kq v3 w' => ∃ (x3_1 : Int), v3 = .int .i64 x3_1 ∧ Aside0 (gatepostref22_Few.l0 kq l0 x3_1 = some r) ∧ Aside0 (kq ≤ k) ∧ Drawn0 w w')
  case atStart => exact ⟨(0), (by first | rfl | (simp; done) | (simp [*]; done)), H', ⟨Nat.le_refl _⟩, by repeat (first | exact Drawn0.refl _ | apply Drawn0.step)⟩
  case round =>
    clear H'
    obtain ⟨x3_1, rfl, HA, HK1, ⟨m1, rfl⟩⟩ := hrel
    cases gk with
    | zero => exact absurd HA.out (by simp [gatepostref22_Few.l0])
    | succ k1 =>
      have H := HA.out
      clear HA
      simp only [gatepostref22_Few.l0] at H
      have HC2 := Aside0.mk H
      clear H
      go_upto_region 2 with (fail)
      go_cut [11] (fun v11 wc => ∃ (kq : Nat) (x11_1 : Bool), v11 = .bool x11_1 ∧ Aside0 (gatepostref22_Few.j1 kq l0 x3_1 x11_1 = some r) ∧ Aside0 (kq ≤ k1) ∧ Drawn0 w wc)
      case first =>
        have H := HC2.out
        clear HC2
        by_cases c3 : x3_1 < (l0.length : Int)
        · rw [if_pos c3] at H
          have c3b0 : decide (x3_1 < (l0.length : Int)) = true := decide_eq_true c3
          clear c3
          (first | rw [c3b0] | rw [c3b1] | (simp only [i64_w, i32_w]; rw [c3b0]) | skip)
          have H' := Aside0.mk H
          clear H
          go_wp2
          go_meet
          case rel => exact ⟨_, (decide (x3_1 < 7)), (by first | rfl | (simp; done) | (simp [*]; done)), H', ⟨by have := HK1.out; first | omega | exact Nat.le_refl _⟩, by repeat (first | exact Drawn0.refl _ | apply Drawn0.step)⟩
        · rw [if_neg c3] at H
          have c3b0 : decide (x3_1 < (l0.length : Int)) = false := decide_eq_false c3
          clear c3
          (first | rw [c3b0] | rw [c3b1] | (simp only [i64_w, i32_w]; rw [c3b0]) | skip)
          have H' := Aside0.mk H
          clear H
          go_wp2
          go_meet
          case rel => exact ⟨_, (false), (by first | rfl | (simp; done) | (simp [*]; done)), H', ⟨by have := HK1.out; first | omega | exact Nat.le_refl _⟩, by repeat (first | exact Drawn0.refl _ | apply Drawn0.step)⟩
      case rest =>
        clear HC2
        try clear p2
        try clear c3
        try clear c3b0
        obtain ⟨kq, x11_1, rfl, HA, HJ1, ⟨mc1, rfl⟩⟩ := hcut
        cases kq with
        | zero => exact absurd HA.out (by simp [gatepostref22_Few.j1])
        | succ kj1 =>
          have H := HA.out
          clear HA
          simp only [gatepostref22_Few.j1] at H
          by_cases c4 : x11_1 = true
          · subst c4
            have H1 : (if 0 ≤ x3_1 then (if x3_1 < (l0.length : Int) then (if ((rd_L1 l0 x3_1).length : Int) > 16 then (some false) else (gatepostref22_Few.l0 kj1 l0 (wrap64 (x3_1 + 1)))) else (none)) else (none)) = some r := by rw [if_pos rfl] at H; exact H
            clear H
            have H := H1
            clear H1
            by_cases c5 : 0 ≤ x3_1
            · rw [if_pos c5] at H
              have c5b0 : decide (0 ≤ x3_1) = true := decide_eq_true c5
              clear c5
              by_cases c6 : x3_1 < (l0.length : Int)
              · rw [if_pos c6] at H
                have c6b0 : decide (x3_1 < (l0.length : Int)) = true := decide_eq_true c6
                clear c6
                by_cases c7 : ((rd_L1 l0 x3_1).length : Int) > 16
                · rw [if_pos c7] at H
                  have c7b0 : decide (16 < ((rd_L1 l0 x3_1).length : Int)) = true := decide_eq_true c7
                  have c7b1 : decide (16 < (rd_L1 l0 x3_1).length) = true := decide_eq_true (by omega)
                  clear c7
                  obtain rfl := Option.some.inj H
                  have p131 : 0 ≤ (x3_1 : Int) := of_decide_eq_true (by first | (with_reducible assumption) | assumption)
                  have q131 : x3_1 < (l0.length : Int) := of_decide_eq_true (by first | (with_reducible assumption) | assumption)
                  obtain ⟨ad131, A131_0, c131_0, e131, hx131_0, hl131_0, hi131_0⟩ := at_L1 HR0.out x3_1 p131 q131
                  cases e131
                  have HR131_0 := Aside0.mk hi131_0
                  have HC131_0 := Aside0.mk hl131_0
                  clear hi131_0 hl131_0
                  replace p131 := eq_true p131
                  replace q131 := eq_true q131
                  go_wp2
                  go_ret
                  exact ⟨by first | rfl | (simp; done) | (simp [*]; done), by repeat (first | exact Drawn0.refl _ | apply Drawn0.step)⟩
                · rw [if_neg c7] at H
                  have c7b0 : decide (16 < ((rd_L1 l0 x3_1).length : Int)) = false := decide_eq_false c7
                  have c7b1 : decide (16 < (rd_L1 l0 x3_1).length) = false := decide_eq_false (by omega)
                  clear c7
                  have H' := Aside0.mk H
                  clear H
                  have p131 : 0 ≤ (x3_1 : Int) := of_decide_eq_true (by first | (with_reducible assumption) | assumption)
                  have q131 : x3_1 < (l0.length : Int) := of_decide_eq_true (by first | (with_reducible assumption) | assumption)
                  obtain ⟨ad131, A131_0, c131_0, e131, hx131_0, hl131_0, hi131_0⟩ := at_L1 HR0.out x3_1 p131 q131
                  cases e131
                  have HR131_0 := Aside0.mk hi131_0
                  have HC131_0 := Aside0.mk hl131_0
                  clear hi131_0 hl131_0
                  replace p131 := eq_true p131
                  replace q131 := eq_true q131
                  go_wp2
                  go_roundg kj1
                  case measure => have := HK1.out; have := HJ1.out; omega
                  case rel => exact ⟨(wrap64 (x3_1 + 1)), (by first | rfl | (simp; done) | (simp [*]; done)), H', ⟨by have := HK1.out; have := HJ1.out; omega⟩, by repeat (first | exact Drawn0.refl _ | apply Drawn0.step)⟩
              · rw [if_neg c6] at H
                exact absurd H (by simp)
            · rw [if_neg c5] at H
              exact absurd H (by simp)
          · replace c4 := Bool.eq_false_iff.mpr c4
            subst c4
            have H1 : (some (decide ((l0.length : Int) ≤ 6))) = some r := by rw [if_neg (show ¬ (false = true) by decide)] at H; exact H
            clear H
            have H := H1
            clear H1
            obtain rfl := Option.some.inj H
            go_wp2
            go_ret
            exact ⟨by first | rfl | (simp; done) | (simp [*]; done), by repeat (first | exact Drawn0.refl _ | apply Drawn0.step)⟩

end Go.Proofs.Ytglafngeeggeeaa.PSch
