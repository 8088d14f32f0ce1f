/- Proved here: that functions of the program come to what plain Lean functions say, and (where it stands) the row of a law. No condition beyond that of the rows. Laid by a program of this session (wip/printgiven.py) out of the print of the translation. -/
import Derived.Test.YtbdiklhffngjmaaPPctx0
import Derived.Test.YtbdiklhffngjmaaPPctx4
namespace Go.Proofs.Ytbdiklhffngjmaa.PPct
open Go.RowKit Go.Proofs.YtbdiklhffngjmaaW.PrintWords Go.Proofs.YtbdiklhffngjmaaW.PrintLast Go.Proofs.YtbdiklhffngjmaaW.PrintMore
attribute [local go_sem] max2_int min2_int max_two min_two max_three min_three max_four min_four   -- for this text's walks alone
set_option linter.unusedVariables false
set_option linter.unusedSimpArgs false

/-! ### gatepostref02_follows: function 36 -/
def gatepostref02_follows.j0 : Nat → Int → Int → Int → Bool → Option (Bool)
  | 0, _, _, _, _ => none
  | k + 1, x0, x1, x2, x12 => if x12 = true then (some false) else (if x2 > 1 then (some true) else (if x0 = 224 then (if x1 < 160 then (some (!true)) else (if x0 = 237 then (if x1 > 159 then (some (!true)) else (if x0 = 240 then (if x1 < 144 then (some (!true)) else (if x0 = 244 then (some (!(decide (x1 > 143)))) else (some (!false)))) else (if x0 = 244 then (some (!(decide (x1 > 143)))) else (some (!false))))) else (if x0 = 240 then (if x1 < 144 then (some (!true)) else (if x0 = 244 then (some (!(decide (x1 > 143)))) else (some (!false)))) else (if x0 = 244 then (some (!(decide (x1 > 143)))) else (some (!false)))))) else (if x0 = 237 then (if x1 > 159 then (some (!true)) else (if x0 = 240 then (if x1 < 144 then (some (!true)) else (if x0 = 244 then (some (!(decide (x1 > 143)))) else (some (!false)))) else (if x0 = 244 then (some (!(decide (x1 > 143)))) else (some (!false))))) else (if x0 = 240 then (if x1 < 144 then (some (!true)) else (if x0 = 244 then (some (!(decide (x1 > 143)))) else (some (!false)))) else (if x0 = 244 then (some (!(decide (x1 > 143)))) else (some (!false)))))))
def gatepostref02_follows.f (k : Nat) (a0 : Int) (a1 : Int) (a2 : Int) : Option (Bool) := if a1 < 128 then (gatepostref02_follows.j0 k a0 a1 a2 true) else (gatepostref02_follows.j0 k a0 a1 a2 (decide (a1 > 191)))
theorem gatepostref02_follows.mono_l : ∀ k, (∀ y0 y1 y2 y3, LeO (gatepostref02_follows.j0 k y0 y1 y2 y3) (gatepostref02_follows.j0 (k + 1) y0 y1 y2 y3))
  | 0 => fun _ _ _ _ r h => by simp [gatepostref02_follows.j0] at h
  | k + 1 => by
    have ih0 := gatepostref02_follows.mono_l k
    · intro y0 y1 y2 y3
      unfold gatepostref02_follows.j0
      repeat' first
      | (with_reducible exact ih0 _ _ _ _)
      | (with_reducible exact LeO.refl _)
      | (with_reducible exact LeO.none _)
      | (with_reducible refine LeO.ite ?_ ?_)
      | (with_reducible refine LeO.bind ?_ (fun _ => ?_))
      | exact ih0 _ _ _ _
      | exact LeO.none _
      | refine LeO.ite ?_ ?_
      | refine LeO.bind ?_ (fun _ => ?_)
theorem gatepostref02_follows.mono : ∀ a0 a1 a2 k, LeO (gatepostref02_follows.f k a0 a1 a2) (gatepostref02_follows.f (k + 1) a0 a1 a2) := by
  intro a0 a1 a2 k
  have ih0 := gatepostref02_follows.mono_l k
  unfold gatepostref02_follows.f
  repeat' first
      | (with_reducible exact ih0 _ _ _ _)
      | (with_reducible exact LeO.refl _)
      | (with_reducible exact LeO.none _)
      | (with_reducible refine LeO.ite ?_ ?_)
      | (with_reducible refine LeO.bind ?_ (fun _ => ?_))
      | exact ih0 _ _ _ _
      | exact LeO.none _
      | refine LeO.ite ?_ ?_
      | refine LeO.bind ?_ (fun _ => ?_)
set_option maxHeartbeats 8000000 in
set_option maxRecDepth 100000 in
theorem gatepostref02_follows.calls (k : Nat) (a0 : Int) (a1 : Int) (a2 : Int) (r : Bool) (w : World) (h : gatepostref02_follows.f k a0 a1 a2 = some r) :
    Calls Try.prog 36 #[.int .u8 a0, .int .u8 a1, .int .i64 a2] w fun e w' => e = .returned (.bool r) ∧ Drawn0 w w' := by
  have H : (if a1 < 128 then (gatepostref02_follows.j0 k a0 a1 a2 true) else (gatepostref02_follows.j0 k a0 a1 a2 (decide (a1 > 191)))) = some r := h
  clear h
  have HC4 := Aside0.mk H
  clear H
  go_enter Try.func36, Try.ntmps36
  go_upto_region 1 with (fail)
  go_cut [12] (fun v12 wc => ∃ (kq : Nat) (x12_3 : Bool), v12 = .bool x12_3 ∧ Aside0 (gatepostref02_follows.j0 kq a0 a1 a2 x12_3 = some r) ∧ Aside0 (kq ≤ k) ∧ Drawn0 w wc)
  case first =>
    have H := HC4.out
    clear HC4
    by_cases c5 : a1 < 128
    · rw [if_pos c5] at H
      have c5b0 : decide (a1 < 128) = true := decide_eq_true c5
      clear c5
      (first | rw [c5b0] | rw [c5b1] | (simp only [i64_w, i32_w]; rw [c5b0]) | skip)
      have H' := Aside0.mk H
      clear H
      go_wp2
      go_meet
      case rel => exact ⟨_, (true), (by first | rfl | (simp; done) | (simp [*]; done)), H', ⟨by first | omega | exact Nat.le_refl _⟩, by repeat (first | exact Drawn0.refl _ | apply Drawn0.step)⟩
    · rw [if_neg c5] at H
      have c5b0 : decide (a1 < 128) = false := decide_eq_false c5
      clear c5
      (first | rw [c5b0] | rw [c5b1] | (simp only [i64_w, i32_w]; rw [c5b0]) | skip)
      have H' := Aside0.mk H
      clear H
      go_wp2
      go_meet
      case rel => exact ⟨_, (decide (a1 > 191)), (by first | rfl | (simp; done) | (simp [*]; done)), H', ⟨by first | omega | exact Nat.le_refl _⟩, by repeat (first | exact Drawn0.refl _ | apply Drawn0.step)⟩
  case rest =>
    clear HC4
    try clear p2
    try clear c3
    try clear c5
    try clear c5b0
    obtain ⟨kq, x12_3, rfl, HA, HJ3, ⟨mc3, rfl⟩⟩ := hcut
    cases kq with
    | zero => exact absurd HA.out (by simp [gatepostref02_follows.j0])
    | succ kj3 =>
      have H := HA.out
      clear HA
      simp only [gatepostref02_follows.j0] at H
      by_cases c6 : x12_3 = true
      · subst c6
        have H1 : (some false) = some r := by rw [if_pos rfl] at H; exact H
        clear H
        have H := H1
        clear H1
        obtain rfl := Option.some.inj H
        go_wp2
        go_ret
        exact ⟨by first | rfl | (simp; done) | (simp [*]; done), by repeat (first | exact Drawn0.refl _ | apply Drawn0.step)⟩
      · replace c6 := Bool.eq_false_iff.mpr c6
        subst c6
        have H1 : (if a2 > 1 then (some true) else (if a0 = 224 then (if a1 < 160 then (some (!true)) else (if a0 = 237 then (if a1 > 159 then (some (!true)) else (if a0 = 240 then (if a1 < 144 then (some (!true)) else (if a0 = 244 then (some (!(decide (a1 > 143)))) else (some (!false)))) else (if a0 = 244 then (some (!(decide (a1 > 143)))) else (some (!false))))) else (if a0 = 240 then (if a1 < 144 then (some (!true)) else (if a0 = 244 then (some (!(decide (a1 > 143)))) else (some (!false)))) else (if a0 = 244 then (some (!(decide (a1 > 143)))) else (some (!false)))))) else (if a0 = 237 then (if a1 > 159 then (some (!true)) else (if a0 = 240 then (if a1 < 144 then (some (!true)) else (if a0 = 244 then (some (!(decide (a1 > 143)))) else (some (!false)))) else (if a0 = 244 then (some (!(decide (a1 > 143)))) else (some (!false))))) else (if a0 = 240 then (if a1 < 144 then (some (!true)) else (if a0 = 244 then (some (!(decide (a1 > 143)))) else (some (!false)))) else (if a0 = 244 then (some (!(decide (a1 > 143)))) else (some (!false))))))) = some r := by rw [if_neg (show ¬ (false = true) by decide)] at H; exact H
        clear H
        have H := H1
        clear H1
        by_cases c7 : a2 > 1
        · rw [if_pos c7] at H
          have c7b0 : decide (1 < a2) = true := decide_eq_true c7
          clear c7
          obtain rfl := Option.some.inj H
          go_wp2
          go_ret
          exact ⟨by first | rfl | (simp; done) | (simp [*]; done), by repeat (first | exact Drawn0.refl _ | apply Drawn0.step)⟩
        · rw [if_neg c7] at H
          have c7b0 : decide (1 < a2) = false := decide_eq_false c7
          clear c7
          by_cases c8 : a0 = 224
          · rw [if_pos c8] at H
            have c8b0 : (a0 == 224) = true := beq_iff_eq.mpr c8
            have c8b1 : (a0 != 224) = false := bne_eq_false_iff_eq.mpr c8
            clear c8
            by_cases c9 : a1 < 160
            · rw [if_pos c9] at H
              have c9b0 : decide (a1 < 160) = true := decide_eq_true c9
              clear c9
              obtain rfl := Option.some.inj H
              go_wp2
              go_ret
              exact ⟨by first | rfl | (simp; done) | (simp [*]; done), by repeat (first | exact Drawn0.refl _ | apply Drawn0.step)⟩
            · rw [if_neg c9] at H
              have c9b0 : decide (a1 < 160) = false := decide_eq_false c9
              clear c9
              by_cases c10 : a0 = 237
              · rw [if_pos c10] at H
                have c10b0 : (a0 == 237) = true := beq_iff_eq.mpr c10
                have c10b1 : (a0 != 237) = false := bne_eq_false_iff_eq.mpr c10
                clear c10
                by_cases c11 : a1 > 159
                · rw [if_pos c11] at H
                  have c11b0 : decide (159 < a1) = true := decide_eq_true c11
                  clear c11
                  obtain rfl := Option.some.inj H
                  go_wp2
                  go_ret
                  exact ⟨by first | rfl | (simp; done) | (simp [*]; done), by repeat (first | exact Drawn0.refl _ | apply Drawn0.step)⟩
                · rw [if_neg c11] at H
                  have c11b0 : decide (159 < a1) = false := decide_eq_false c11
                  clear c11
                  by_cases c12 : a0 = 240
                  · rw [if_pos c12] at H
                    have c12b0 : (a0 == 240) = true := beq_iff_eq.mpr c12
                    have c12b1 : (a0 != 240) = false := bne_eq_false_iff_eq.mpr c12
                    clear c12
                    by_cases c13 : a1 < 144
                    · rw [if_pos c13] at H
                      have c13b0 : decide (a1 < 144) = true := decide_eq_true c13
                      clear c13
                      obtain rfl := Option.some.inj H
                      go_wp2
                      go_ret
                      exact ⟨by first | rfl | (simp; done) | (simp [*]; done), by repeat (first | exact Drawn0.refl _ | apply Drawn0.step)⟩
                    · rw [if_neg c13] at H
                      have c13b0 : decide (a1 < 144) = false := decide_eq_false c13
                      clear c13
                      by_cases c14 : a0 = 244
                      · rw [if_pos c14] at H
                        have c14b0 : (a0 == 244) = true := beq_iff_eq.mpr c14
                        have c14b1 : (a0 != 244) = false := bne_eq_false_iff_eq.mpr c14
                        clear c14
                        obtain rfl := Option.some.inj H
                        go_wp2
                        go_ret
                        exact ⟨by first | rfl | (simp; done) | (simp [*]; done), by repeat (first | exact Drawn0.refl _ | apply Drawn0.step)⟩
                      · rw [if_neg c14] at H
                        have c14b0 : (a0 == 244) = false := beq_eq_false_iff_ne.mpr c14
                        have c14b1 : (a0 != 244) = true := bne_iff_ne.mpr c14
                        obtain rfl := Option.some.inj H
                        go_wp2
                        go_ret
                        exact ⟨by first | rfl | (simp; done) | (simp [*]; done), by repeat (first | exact Drawn0.refl _ | apply Drawn0.step)⟩
                  · rw [if_neg c12] at H
                    have c12b0 : (a0 == 240) = false := beq_eq_false_iff_ne.mpr c12
                    have c12b1 : (a0 != 240) = true := bne_iff_ne.mpr c12
                    by_cases c15 : a0 = 244
                    · rw [if_pos c15] at H
                      have c15b0 : (a0 == 244) = true := beq_iff_eq.mpr c15
                      have c15b1 : (a0 != 244) = false := bne_eq_false_iff_eq.mpr c15
                      clear c15
                      obtain rfl := Option.some.inj H
                      go_wp2
                      go_ret
                      exact ⟨by first | rfl | (simp; done) | (simp [*]; done), by repeat (first | exact Drawn0.refl _ | apply Drawn0.step)⟩
                    · rw [if_neg c15] at H
                      have c15b0 : (a0 == 244) = false := beq_eq_false_iff_ne.mpr c15
                      have c15b1 : (a0 != 244) = true := bne_iff_ne.mpr c15
                      obtain rfl := Option.some.inj H
                      go_wp2
                      go_ret
                      exact ⟨by first | rfl | (simp; done) | (simp [*]; done), by repeat (first | exact Drawn0.refl _ | apply Drawn0.step)⟩
              · rw [if_neg c10] at H
                have c10b0 : (a0 == 237) = false := beq_eq_false_iff_ne.mpr c10
                have c10b1 : (a0 != 237) = true := bne_iff_ne.mpr c10
                by_cases c16 : a0 = 240
                · rw [if_pos c16] at H
                  have c16b0 : (a0 == 240) = true := beq_iff_eq.mpr c16
                  have c16b1 : (a0 != 240) = false := bne_eq_false_iff_eq.mpr c16
                  clear c16
                  by_cases c17 : a1 < 144
                  · rw [if_pos c17] at H
                    have c17b0 : decide (a1 < 144) = true := decide_eq_true c17
                    clear c17
                    obtain rfl := Option.some.inj H
                    go_wp2
                    go_ret
                    exact ⟨by first | rfl | (simp; done) | (simp [*]; done), by repeat (first | exact Drawn0.refl _ | apply Drawn0.step)⟩
                  · rw [if_neg c17] at H
                    have c17b0 : decide (a1 < 144) = false := decide_eq_false c17
                    clear c17
                    by_cases c18 : a0 = 244
                    · rw [if_pos c18] at H
                      have c18b0 : (a0 == 244) = true := beq_iff_eq.mpr c18
                      have c18b1 : (a0 != 244) = false := bne_eq_false_iff_eq.mpr c18
                      clear c18
                      obtain rfl := Option.some.inj H
                      go_wp2
                      go_ret
                      exact ⟨by first | rfl | (simp; done) | (simp [*]; done), by repeat (first | exact Drawn0.refl _ | apply Drawn0.step)⟩
                    · rw [if_neg c18] at H
                      have c18b0 : (a0 == 244) = false := beq_eq_false_iff_ne.mpr c18
                      have c18b1 : (a0 != 244) = true := bne_iff_ne.mpr c18
                      obtain rfl := Option.some.inj H
                      go_wp2
                      go_ret
                      exact ⟨by first | rfl | (simp; done) | (simp [*]; done), by repeat (first | exact Drawn0.refl _ | apply Drawn0.step)⟩
                · rw [if_neg c16] at H
                  have c16b0 : (a0 == 240) = false := beq_eq_false_iff_ne.mpr c16
                  have c16b1 : (a0 != 240) = true := bne_iff_ne.mpr c16
                  by_cases c19 : a0 = 244
                  · rw [if_pos c19] at H
                    have c19b0 : (a0 == 244) = true := beq_iff_eq.mpr c19
                    have c19b1 : (a0 != 244) = false := bne_eq_false_iff_eq.mpr c19
                    clear c19
                    obtain rfl := Option.some.inj H
                    go_wp2
                    go_ret
                    exact ⟨by first | rfl | (simp; done) | (simp [*]; done), by repeat (first | exact Drawn0.refl _ | apply Drawn0.step)⟩
                  · rw [if_neg c19] at H
                    have c19b0 : (a0 == 244) = false := beq_eq_false_iff_ne.mpr c19
                    have c19b1 : (a0 != 244) = true := bne_iff_ne.mpr c19
                    obtain rfl := Option.some.inj H
                    go_wp2
                    go_ret
                    exact ⟨by first | rfl | (simp; done) | (simp [*]; done), by repeat (first | exact Drawn0.refl _ | apply Drawn0.step)⟩
          · rw [if_neg c8] at H
            have c8b0 : (a0 == 224) = false := beq_eq_false_iff_ne.mpr c8
            have c8b1 : (a0 != 224) = true := bne_iff_ne.mpr c8
            by_cases c20 : a0 = 237
            · rw [if_pos c20] at H
              have c20b0 : (a0 == 237) = true := beq_iff_eq.mpr c20
              have c20b1 : (a0 != 237) = false := bne_eq_false_iff_eq.mpr c20
              clear c20
              by_cases c21 : a1 > 159
              · rw [if_pos c21] at H
                have c21b0 : decide (159 < a1) = true := decide_eq_true c21
                clear c21
                obtain rfl := Option.some.inj H
                go_wp2
                go_ret
                exact ⟨by first | rfl | (simp; done) | (simp [*]; done), by repeat (first | exact Drawn0.refl _ | apply Drawn0.step)⟩
              · rw [if_neg c21] at H
                have c21b0 : decide (159 < a1) = false := decide_eq_false c21
                clear c21
                by_cases c22 : a0 = 240
                · rw [if_pos c22] at H
                  have c22b0 : (a0 == 240) = true := beq_iff_eq.mpr c22
                  have c22b1 : (a0 != 240) = false := bne_eq_false_iff_eq.mpr c22
                  clear c22
                  by_cases c23 : a1 < 144
                  · rw [if_pos c23] at H
                    have c23b0 : decide (a1 < 144) = true := decide_eq_true c23
                    clear c23
                    obtain rfl := Option.some.inj H
                    go_wp2
                    go_ret
                    exact ⟨by first | rfl | (simp; done) | (simp [*]; done), by repeat (first | exact Drawn0.refl _ | apply Drawn0.step)⟩
                  · rw [if_neg c23] at H
                    have c23b0 : decide (a1 < 144) = false := decide_eq_false c23
                    clear c23
                    by_cases c24 : a0 = 244
                    · rw [if_pos c24] at H
                      have c24b0 : (a0 == 244) = true := beq_iff_eq.mpr c24
                      have c24b1 : (a0 != 244) = false := bne_eq_false_iff_eq.mpr c24
                      clear c24
                      obtain rfl := Option.some.inj H
                      go_wp2
                      go_ret
                      exact ⟨by first | rfl | (simp; done) | (simp [*]; done), by repeat (first | exact Drawn0.refl _ | apply Drawn0.step)⟩
                    · rw [if_neg c24] at H
                      have c24b0 : (a0 == 244) = false := beq_eq_false_iff_ne.mpr c24
                      have c24b1 : (a0 != 244) = true := bne_iff_ne.mpr c24
                      obtain rfl := Option.some.inj H
                      go_wp2
                      go_ret
                      exact ⟨by first | rfl | (simp; done) | (simp [*]; done), by repeat (first | exact Drawn0.refl _ | apply Drawn0.step)⟩
                · rw [if_neg c22] at H
                  have c22b0 : (a0 == 240) = false := beq_eq_false_iff_ne.mpr c22
                  have c22b1 : (a0 != 240) = true := bne_iff_ne.mpr c22
                  by_cases c25 : a0 = 244
                  · rw [if_pos c25] at H
                    have c25b0 : (a0 == 244) = true := beq_iff_eq.mpr c25
                    have c25b1 : (a0 != 244) = false := bne_eq_false_iff_eq.mpr c25
                    clear c25
                    obtain rfl := Option.some.inj H
                    go_wp2
                    go_ret
                    exact ⟨by first | rfl | (simp; done) | (simp [*]; done), by repeat (first | exact Drawn0.refl _ | apply Drawn0.step)⟩
                  · rw [if_neg c25] at H
                    have c25b0 : (a0 == 244) = false := beq_eq_false_iff_ne.mpr c25
                    have c25b1 : (a0 != 244) = true := bne_iff_ne.mpr c25
                    obtain rfl := Option.some.inj H
                    go_wp2
                    go_ret
                    exact ⟨by first | rfl | (simp; done) | (simp [*]; done), by repeat (first | exact Drawn0.refl _ | apply Drawn0.step)⟩
            · rw [if_neg c20] at H
              have c20b0 : (a0 == 237) = false := beq_eq_false_iff_ne.mpr c20
              have c20b1 : (a0 != 237) = true := bne_iff_ne.mpr c20
              by_cases c26 : a0 = 240
              · rw [if_pos c26] at H
                have c26b0 : (a0 == 240) = true := beq_iff_eq.mpr c26
                have c26b1 : (a0 != 240) = false := bne_eq_false_iff_eq.mpr c26
                clear c26
                by_cases c27 : a1 < 144
                · rw [if_pos c27] at H
                  have c27b0 : decide (a1 < 144) = true := decide_eq_true c27
                  clear c27
                  obtain rfl := Option.some.inj H
                  go_wp2
                  go_ret
                  exact ⟨by first | rfl | (simp; done) | (simp [*]; done), by repeat (first | exact Drawn0.refl _ | apply Drawn0.step)⟩
                · rw [if_neg c27] at H
                  have c27b0 : decide (a1 < 144) = false := decide_eq_false c27
                  clear c27
                  by_cases c28 : a0 = 244
                  · rw [if_pos c28] at H
                    have c28b0 : (a0 == 244) = true := beq_iff_eq.mpr c28
                    have c28b1 : (a0 != 244) = false := bne_eq_false_iff_eq.mpr c28
                    clear c28
                    obtain rfl := Option.some.inj H
                    go_wp2
                    go_ret
                    exact ⟨by first | rfl | (simp; done) | (simp [*]; done), by repeat (first | exact Drawn0.refl _ | apply Drawn0.step)⟩
                  · rw [if_neg c28] at H
                    have c28b0 : (a0 == 244) = false := beq_eq_false_iff_ne.mpr c28
                    have c28b1 : (a0 != 244) = true := bne_iff_ne.mpr c28
                    obtain rfl := Option.some.inj H
                    go_wp2
                    go_ret
                    exact ⟨by first | rfl | (simp; done) | (simp [*]; done), by repeat (first | exact Drawn0.refl _ | apply Drawn0.step)⟩
              · rw [if_neg c26] at H
                have c26b0 : (a0 == 240) = false := beq_eq_false_iff_ne.mpr c26
                have c26b1 : (a0 != 240) = true := bne_iff_ne.mpr c26
                by_cases c29 : a0 = 244
                · rw [if_pos c29] at H
                  have c29b0 : (a0 == 244) = true := beq_iff_eq.mpr c29
                  have c29b1 : (a0 != 244) = false := bne_eq_false_iff_eq.mpr c29
                  clear c29
                  obtain rfl := Option.some.inj H
                  go_wp2
                  go_ret
                  exact ⟨by first | rfl | (simp; done) | (simp [*]; done), by repeat (first | exact Drawn0.refl _ | apply Drawn0.step)⟩
                · rw [if_neg c29] at H
                  have c29b0 : (a0 == 244) = false := beq_eq_false_iff_ne.mpr c29
                  have c29b1 : (a0 != 244) = true := bne_iff_ne.mpr c29
                  obtain rfl := Option.some.inj H
                  go_wp2
                  go_ret
                  exact ⟨by first | rfl | (simp; done) | (simp [*]; done), by repeat (first | exact Drawn0.refl _ | apply Drawn0.step)⟩

/-! ### gatepostref02_begin: function 28 -/
def gatepostref02_begin.l0 : Nat → ByteArray → Int → Int → Int → Option (Int)
  | 0, _, _, _, _ => none
  | k + 1, x0, x1, x5, x6 => if x6 > 0 then (if x6 < x5 then (if (wrap64 (x1 + x6)) < (x0.size : Int) then (if 0 ≤ x1 then (if x1 < (x0.size : Int) then (if 0 ≤ (wrap64 (x1 + x6)) then ((gatepostref02_follows.f k (bt x0 x1) (bt x0 (wrap64 (x1 + x6))) x6).bind fun t187 => (if t187 = true then (gatepostref02_begin.l0 k x0 x1 x5 (wrap64 (x6 + 1))) else (some x6))) else (none)) else (none)) else (none)) else (some x6)) else (some x6)) else (some x6)
def gatepostref02_begin.f (k : Nat) (a0 : ByteArray) (a1 : Int) : Option (Int) := if 0 ≤ a1 then (if a1 < (a0.size : Int) then ((gatepostref02_many.f k (bt a0 a1)).bind fun t186 => (gatepostref02_begin.l0 k a0 a1 t186 (mn t186 1))) else (none)) else (none)
theorem gatepostref02_begin.mono_l : ∀ k, (∀ y0 y1 y2 y3, LeO (gatepostref02_begin.l0 k y0 y1 y2 y3) (gatepostref02_begin.l0 (k + 1) y0 y1 y2 y3))
  | 0 => fun _ _ _ _ r h => by simp [gatepostref02_begin.l0] at h
  | k + 1 => by
    have ih0 := gatepostref02_begin.mono_l k
    · intro y0 y1 y2 y3
      unfold gatepostref02_begin.l0
      repeat' first
      | (with_reducible exact ih0 _ _ _ _)
      | (with_reducible exact gatepostref02_follows.mono _ _ _ _)
      | (with_reducible exact gatepostref02_many.mono _ _)
      | (with_reducible exact LeO.refl _)
      | (with_reducible exact LeO.none _)
      | (with_reducible refine LeO.ite ?_ ?_)
      | (with_reducible refine LeO.bind ?_ (fun _ => ?_))
      | exact ih0 _ _ _ _
      | exact gatepostref02_follows.mono _ _ _ _
      | exact gatepostref02_many.mono _ _
      | exact LeO.none _
      | refine LeO.ite ?_ ?_
      | refine LeO.bind ?_ (fun _ => ?_)
theorem gatepostref02_begin.mono : ∀ a0 a1 k, LeO (gatepostref02_begin.f k a0 a1) (gatepostref02_begin.f (k + 1) a0 a1) := by
  intro a0 a1 k
  have ih0 := gatepostref02_begin.mono_l k
  unfold gatepostref02_begin.f
  repeat' first
      | (with_reducible exact ih0 _ _ _ _)
      | (with_reducible exact gatepostref02_follows.mono _ _ _ _)
      | (with_reducible exact gatepostref02_many.mono _ _)
      | (with_reducible exact LeO.refl _)
      | (with_reducible exact LeO.none _)
      | (with_reducible refine LeO.ite ?_ ?_)
      | (with_reducible refine LeO.bind ?_ (fun _ => ?_))
      | exact ih0 _ _ _ _
      | exact gatepostref02_follows.mono _ _ _ _
      | exact gatepostref02_many.mono _ _
      | exact LeO.none _
      | refine LeO.ite ?_ ?_
      | refine LeO.bind ?_ (fun _ => ?_)
set_option maxHeartbeats 8000000 in
set_option maxRecDepth 100000 in
theorem gatepostref02_begin.calls (k : Nat) (a0 : ByteArray) (a1 : Int) (r : Int) (w : World) (h : gatepostref02_begin.f k a0 a1 = some r) :
    Calls Try.prog 28 #[.string a0, .int .i64 a1] w fun e w' => e = .returned (.int .i64 r) ∧ Below w.heap.size w w' := by
  have HB := Aside0.mk (Below.refl w.heap.size w)
  have H : (if 0 ≤ a1 then (if a1 < (a0.size : Int) then ((gatepostref02_many.f k (bt a0 a1)).bind fun t186 => (gatepostref02_begin.l0 k a0 a1 t186 (mn t186 1))) else (none)) else (none)) = some r := h
  clear h
  by_cases c3 : 0 ≤ a1
  · rw [if_pos c3] at H
    have c3b0 : decide (0 ≤ a1) = true := decide_eq_true c3
    clear c3
    by_cases c4 : a1 < (a0.size : Int)
    · rw [if_pos c4] at H
      have c4b0 : decide (a1 < (a0.size : Int)) = true := decide_eq_true c4
      clear c4
      replace H := Option.bind_eq_some_iff.mp H
      obtain ⟨t186, A60, H⟩ := H
      replace H : (gatepostref02_begin.l0 k a0 a1 t186 (mn t186 1)) = some r := H
      have A6 := Aside0.mk A60
      clear A60
      obtain ⟨ji7, hji7⟩ : ∃ j_ : Int, (mn t186 1) = j_ := ⟨_, rfl⟩
      replace H : (gatepostref02_begin.l0 k a0 a1 t186 ji7) = some r := by first | (rw [hji7] at H; exact H) | (simp only [hji7] at H ⊢; exact H)
      (try rw [hji7] at A6)
      (try (have hji7h : ji7 ≤ 1 := by (rw [← hji7]; unfold mn; (repeat' split) <;> omega)))
      (try (have hji7g : ji7 ≤ 64 := by omega))
      have hji7_ : (if 1 < t186 then 1 else t186) = ji7 := hji7
      have H' := Aside0.mk H
      clear H
      have p5 : 0 ≤ (a1 : Int) := of_decide_eq_true (by first | (with_reducible assumption) | assumption)
      have q5 : a1 < (a0.size : Int) := of_decide_eq_true (by first | (with_reducible assumption) | assumption)
      have hx5 := bt_at a0 a1
      replace p5 := eq_true p5
      replace q5 := eq_true q5
      go_enter Try.func28, Try.ntmps28
      go_wp2_with (first | (go_at_call 29; (with_reducible refine (gatepostref02_many.calls k (bt a0 a1) t186 _ A6.out).mono ?_); rintro e w' ⟨rfl, ⟨nd, rfl⟩⟩; (try first | exact ⟨rfl, _, World.drewN_drewN _ _ _⟩ | exact ⟨rfl, _, Eq.trans (World.drewN_drewN _ _ _) (congrArg (World.drewN _) (Nat.add_assoc _ _ _))⟩)))
      repeat (go_quiet (first | (go_at_call 29; (with_reducible refine (gatepostref02_many.calls k (bt a0 a1) t186 _ A6.out).mono ?_); rintro e w' ⟨rfl, ⟨nd, rfl⟩⟩; (try first | exact ⟨rfl, _, World.drewN_drewN _ _ _⟩ | exact ⟨rfl, _, Eq.trans (World.drewN_drewN _ _ _) (congrArg (World.drewN _) (Nat.add_assoc _ _ _))⟩))); try go_wp2_with (first | (go_at_call 29; (with_reducible refine (gatepostref02_many.calls k (bt a0 a1) t186 _ A6.out).mono ?_); rintro e w' ⟨rfl, ⟨nd, rfl⟩⟩; (try first | exact ⟨rfl, _, World.drewN_drewN _ _ _⟩ | exact ⟨rfl, _, Eq.trans (World.drewN_drewN _ _ _) (congrArg (World.drewN _) (Nat.add_assoc _ _ _))⟩))))
      go_loopg [6] k (fun kq v6 w' => ∃ (x6_1 : Int), v6 = .int .i64 x6_1 ∧ Aside0 (gatepostref02_begin.l0 kq a0 a1 t186 x6_1 = some r) ∧ Aside0 (kq ≤ k) ∧ Aside0 (Below w.heap.size w w'))
      case atStart => exact ⟨(ji7), (by first | rfl | (simp; done) | (simp only [← hji7] <;> (first | rfl | simp)) | (simp [*]; done)), H', ⟨Nat.le_refl _⟩, ⟨by repeat (first | (with_reducible first | exact HB.out | apply below_alloc | apply pw_below_drewN | apply below_drew1) | exact HB.out)⟩⟩
      case round =>
        clear H'
        try clear c2
        try clear p2
        try clear c3
        try clear c3b0
        try clear c4
        try clear c4b0
        try clear p5
        try clear q5
        try clear hx5
        try clear p5
        try clear q5
        obtain ⟨x6_1, rfl, HA, HK1, HB⟩ := hrel
        cases gk with
        | zero => exact absurd HA.out (by simp [gatepostref02_begin.l0])
        | succ k1 =>
          have H := HA.out
          clear HA
          simp only [gatepostref02_begin.l0] at H
          by_cases c8 : x6_1 > 0
          · rw [if_pos c8] at H
            have c8b0 : decide (0 < x6_1) = true := decide_eq_true c8
            clear c8
            by_cases c9 : x6_1 < t186
            · rw [if_pos c9] at H
              have c9b0 : decide (x6_1 < t186) = true := decide_eq_true c9
              clear c9
              by_cases c10 : (wrap64 (a1 + x6_1)) < (a0.size : Int)
              · rw [if_pos c10] at H
                have c10b0 : decide ((wrap64 (a1 + x6_1)) < (a0.size : Int)) = true := decide_eq_true c10
                clear c10
                by_cases c11 : 0 ≤ a1
                · rw [if_pos c11] at H
                  have c11b0 : decide (0 ≤ a1) = true := decide_eq_true c11
                  clear c11
                  by_cases c12 : a1 < (a0.size : Int)
                  · rw [if_pos c12] at H
                    have c12b0 : decide (a1 < (a0.size : Int)) = true := decide_eq_true c12
                    clear c12
                    obtain ⟨ji14, hji14⟩ : ∃ j_ : Int, (wrap64 (a1 + x6_1)) = j_ := ⟨_, rfl⟩
                    replace H : (if 0 ≤ (ji14) then ((gatepostref02_follows.f k1 (bt a0 a1) (bt a0 (ji14)) x6_1).bind fun t187 => (if t187 = true then (gatepostref02_begin.l0 k1 a0 a1 t186 (wrap64 (x6_1 + 1))) else (some x6_1))) else (none)) = some r := by first | (rw [hji14] at H; exact H) | (simp only [hji14] at H ⊢; exact H)
                    (try rw [hji14] at c10b0)
                    have hji14w : (IntKind.i64.wrap (a1 + x6_1)) = ji14 := (i64_w _).trans hji14
                    by_cases c15 : 0 ≤ (ji14)
                    · rw [if_pos c15] at H
                      have c15b0 : decide (0 ≤ (ji14)) = true := decide_eq_true c15
                      clear c15
                      replace H := Option.bind_eq_some_iff.mp H
                      obtain ⟨t187, A170, H⟩ := H
                      replace H : (if t187 = true then (gatepostref02_begin.l0 k1 a0 a1 t186 (wrap64 (x6_1 + 1))) else (some x6_1)) = some r := H
                      have A17 := Aside0.mk A170
                      clear A170
                      by_cases c18 : t187 = true
                      · subst c18
                        have H1 : (gatepostref02_begin.l0 k1 a0 a1 t186 (wrap64 (x6_1 + 1))) = some r := by rw [if_pos rfl] at H; exact H
                        clear H
                        have H := H1
                        clear H1
                        have H' := Aside0.mk H
                        clear H
                        have p13 : 0 ≤ (a1 : Int) := of_decide_eq_true (by first | (with_reducible assumption) | assumption)
                        have q13 : a1 < (a0.size : Int) := of_decide_eq_true (by first | (with_reducible assumption) | assumption)
                        have hx13 := bt_at a0 a1
                        replace p13 := eq_true p13
                        replace q13 := eq_true q13
                        have p16 : 0 ≤ ((ji14) : Int) := of_decide_eq_true (by first | (with_reducible assumption) | assumption)
                        have q16 : (ji14) < (a0.size : Int) := of_decide_eq_true (by first | (with_reducible assumption) | assumption)
                        have hx16 := bt_at a0 (ji14)
                        replace p16 := eq_true p16
                        replace q16 := eq_true q16
                        go_wp2_with (first | (go_at_call 36; (with_reducible refine (gatepostref02_follows.calls k1 (bt a0 a1) (bt a0 (ji14)) x6_1 true _ A17.out).mono ?_); rintro e w' ⟨rfl, ⟨nd, rfl⟩⟩; (try first | exact ⟨rfl, _, World.drewN_drewN _ _ _⟩ | exact ⟨rfl, _, Eq.trans (World.drewN_drewN _ _ _) (congrArg (World.drewN _) (Nat.add_assoc _ _ _))⟩)))
                        repeat (go_quiet (first | (go_at_call 36; (with_reducible refine (gatepostref02_follows.calls k1 (bt a0 a1) (bt a0 (ji14)) x6_1 true _ A17.out).mono ?_); rintro e w' ⟨rfl, ⟨nd, rfl⟩⟩; (try first | exact ⟨rfl, _, World.drewN_drewN _ _ _⟩ | exact ⟨rfl, _, Eq.trans (World.drewN_drewN _ _ _) (congrArg (World.drewN _) (Nat.add_assoc _ _ _))⟩))); try go_wp2_with (first | (go_at_call 36; (with_reducible refine (gatepostref02_follows.calls k1 (bt a0 a1) (bt a0 (ji14)) x6_1 true _ A17.out).mono ?_); rintro e w' ⟨rfl, ⟨nd, rfl⟩⟩; (try first | exact ⟨rfl, _, World.drewN_drewN _ _ _⟩ | exact ⟨rfl, _, Eq.trans (World.drewN_drewN _ _ _) (congrArg (World.drewN _) (Nat.add_assoc _ _ _))⟩))))
                        go_roundg k1
                        case measure => have := HK1.out; omega
                        case rel => exact ⟨(wrap64 (x6_1 + 1)), (by first | rfl | (simp; done) | (simp [*]; done)), H', ⟨by have := HK1.out; omega⟩, ⟨by repeat (first | (with_reducible first | exact HB.out | apply below_alloc | apply pw_below_drewN | apply below_drew1) | exact HB.out)⟩⟩
                      · replace c18 := Bool.eq_false_iff.mpr c18
                        subst c18
                        have H1 : (some x6_1) = some r := by rw [if_neg (show ¬ (false = true) by decide)] at H; exact H
                        clear H
                        have H := H1
                        clear H1
                        obtain rfl := Option.some.inj H
                        have p13 : 0 ≤ (a1 : Int) := of_decide_eq_true (by first | (with_reducible assumption) | assumption)
                        have q13 : a1 < (a0.size : Int) := of_decide_eq_true (by first | (with_reducible assumption) | assumption)
                        have hx13 := bt_at a0 a1
                        replace p13 := eq_true p13
                        replace q13 := eq_true q13
                        have p16 : 0 ≤ ((ji14) : Int) := of_decide_eq_true (by first | (with_reducible assumption) | assumption)
                        have q16 : (ji14) < (a0.size : Int) := of_decide_eq_true (by first | (with_reducible assumption) | assumption)
                        have hx16 := bt_at a0 (ji14)
                        replace p16 := eq_true p16
                        replace q16 := eq_true q16
                        go_wp2_with (first | (go_at_call 36; (with_reducible refine (gatepostref02_follows.calls k1 (bt a0 a1) (bt a0 (ji14)) x6_1 false _ A17.out).mono ?_); rintro e w' ⟨rfl, ⟨nd, rfl⟩⟩; (try first | exact ⟨rfl, _, World.drewN_drewN _ _ _⟩ | exact ⟨rfl, _, Eq.trans (World.drewN_drewN _ _ _) (congrArg (World.drewN _) (Nat.add_assoc _ _ _))⟩)))
                        repeat (go_quiet (first | (go_at_call 36; (with_reducible refine (gatepostref02_follows.calls k1 (bt a0 a1) (bt a0 (ji14)) x6_1 false _ A17.out).mono ?_); rintro e w' ⟨rfl, ⟨nd, rfl⟩⟩; (try first | exact ⟨rfl, _, World.drewN_drewN _ _ _⟩ | exact ⟨rfl, _, Eq.trans (World.drewN_drewN _ _ _) (congrArg (World.drewN _) (Nat.add_assoc _ _ _))⟩))); try go_wp2_with (first | (go_at_call 36; (with_reducible refine (gatepostref02_follows.calls k1 (bt a0 a1) (bt a0 (ji14)) x6_1 false _ A17.out).mono ?_); rintro e w' ⟨rfl, ⟨nd, rfl⟩⟩; (try first | exact ⟨rfl, _, World.drewN_drewN _ _ _⟩ | exact ⟨rfl, _, Eq.trans (World.drewN_drewN _ _ _) (congrArg (World.drewN _) (Nat.add_assoc _ _ _))⟩))))
                        go_ret
                        exact ⟨by first | rfl | (simp [errW_none, errW_some] <;> rfl) | (simp only [← hji7, ← hji14]; first | rfl | (simp [errW_none, errW_some] <;> rfl)) | (simp [*, errW_none, errW_some] <;> rfl), by repeat (first | (with_reducible first | exact HB.out | apply below_alloc | apply pw_below_drewN | apply below_drew1) | exact HB.out)⟩
                    · rw [if_neg c15] at H
                      exact absurd H (by simp)
                  · rw [if_neg c12] at H
                    exact absurd H (by simp)
                · rw [if_neg c11] at H
                  exact absurd H (by simp)
              · rw [if_neg c10] at H
                have c10b0 : decide ((wrap64 (a1 + x6_1)) < (a0.size : Int)) = false := decide_eq_false c10
                clear c10
                obtain rfl := Option.some.inj H
                go_wp2
                repeat (go_quiet (fail); try go_wp2)
                go_ret
                exact ⟨by first | rfl | (simp [errW_none, errW_some] <;> rfl) | (simp only [← hji7]; first | rfl | (simp [errW_none, errW_some] <;> rfl)) | (simp [*, errW_none, errW_some] <;> rfl), by repeat (first | (with_reducible first | exact HB.out | apply below_alloc | apply pw_below_drewN | apply below_drew1) | exact HB.out)⟩
            · rw [if_neg c9] at H
              have c9b0 : decide (x6_1 < t186) = false := decide_eq_false c9
              clear c9
              obtain rfl := Option.some.inj H
              go_wp2
              repeat (go_quiet (fail); try go_wp2)
              go_ret
              exact ⟨by first | rfl | (simp [errW_none, errW_some] <;> rfl) | (simp only [← hji7]; first | rfl | (simp [errW_none, errW_some] <;> rfl)) | (simp [*, errW_none, errW_some] <;> rfl), by repeat (first | (with_reducible first | exact HB.out | apply below_alloc | apply pw_below_drewN | apply below_drew1) | exact HB.out)⟩
          · rw [if_neg c8] at H
            have c8b0 : decide (0 < x6_1) = false := decide_eq_false c8
            clear c8
            obtain rfl := Option.some.inj H
            go_wp2
            repeat (go_quiet (fail); try go_wp2)
            go_ret
            exact ⟨by first | rfl | (simp [errW_none, errW_some] <;> rfl) | (simp only [← hji7]; first | rfl | (simp [errW_none, errW_some] <;> rfl)) | (simp [*, errW_none, errW_some] <;> rfl), by repeat (first | (with_reducible first | exact HB.out | apply below_alloc | apply pw_below_drewN | apply below_drew1) | exact HB.out)⟩
    · rw [if_neg c4] at H
      exact absurd H (by simp)
  · rw [if_neg c3] at H
    exact absurd H (by simp)

/-! ### gatepostref02_value: function 30 -/
def gatepostref02_value.l0 : Nat → ByteArray → Int → Int → Option (Int)
  | 0, _, _, _ => none
  | k + 1, x0, x3, x4 => if x4 < (x0.size : Int) then (if 0 ≤ x4 then (gatepostref02_value.l0 k x0 (wrap32 ((wrap32 ((wrap32 (64 * x3)) + (wrap32 (bt x0 x4)))) - 128)) (wrap64 (x4 + 1))) else (none)) else (some x3)
def gatepostref02_value.f (k : Nat) (a0 : ByteArray) : Option (Int) := if (a0.size : Int) = 1 then (if 0 < (a0.size : Int) then (some (wrap32 (bt a0 0))) else (none)) else (if 0 < (a0.size : Int) then ((some (([192, 224, 240] : List Int) : List Int)).bind fun y188 => (if 0 ≤ (wrap64 ((a0.size : Int) - 2)) then (if (wrap64 ((a0.size : Int) - 2)) < (y188.length : Int) then (gatepostref02_value.l0 k a0 (wrap32 ((wrap32 (bt a0 0)) - (rd y188 (wrap64 ((a0.size : Int) - 2))))) 1) else (none)) else (none))) else (none))
theorem gatepostref02_value.mono_l : ∀ k, (∀ y0 y1 y2, LeO (gatepostref02_value.l0 k y0 y1 y2) (gatepostref02_value.l0 (k + 1) y0 y1 y2))
  | 0 => fun _ _ _ r h => by simp [gatepostref02_value.l0] at h
  | k + 1 => by
    have ih0 := gatepostref02_value.mono_l k
    · intro y0 y1 y2
      unfold gatepostref02_value.l0
      repeat' first
      | (with_reducible exact ih0 _ _ _)
      | (with_reducible exact LeO.refl _)
      | (with_reducible exact LeO.none _)
      | (with_reducible refine LeO.ite ?_ ?_)
      | (with_reducible refine LeO.bind ?_ (fun _ => ?_))
      | exact ih0 _ _ _
      | exact LeO.none _
      | refine LeO.ite ?_ ?_
      | refine LeO.bind ?_ (fun _ => ?_)
theorem gatepostref02_value.mono : ∀ a0 k, LeO (gatepostref02_value.f k a0) (gatepostref02_value.f (k + 1) a0) := by
  intro a0 k
  have ih0 := gatepostref02_value.mono_l k
  unfold gatepostref02_value.f
  repeat' first
      | (with_reducible exact ih0 _ _ _)
      | (with_reducible exact LeO.refl _)
      | (with_reducible exact LeO.none _)
      | (with_reducible refine LeO.ite ?_ ?_)
      | (with_reducible refine LeO.bind ?_ (fun _ => ?_))
      | exact ih0 _ _ _
      | exact LeO.none _
      | refine LeO.ite ?_ ?_
      | refine LeO.bind ?_ (fun _ => ?_)
def gatepostref02_value.T3 : Bool × List (List Nat × List Nat) := (true, [([], []), ([0], [0]), ([1], [1]), ([], []), ([], []), ([4], [4]), ([5], [5]), ([3, 6], [3, 6]), ([7], [7]), ([2, 8], [2, 8]), ([9, 0, 1, 2, 3, 4, 5, 6, 7, 8, 9], [9])])
def gatepostref02_value.B3 : List Nat := [0, 1, 3, 0, 0, 16, 48, 120, 248, 511, 1023]
theorem gatepostref02_value.tab3 : rtab .any (opsOf Try.f30 3) = gatepostref02_value.T3 := by kernel_rfl
theorem gatepostref02_value.bits3 : waitsOk gatepostref02_value.T3.2 gatepostref02_value.B3 = true := by kernel_rfl
set_option maxHeartbeats 8000000 in
set_option maxRecDepth 100000 in
theorem gatepostref02_value.calls (k : Nat) (a0 : ByteArray) (r : Int) (w : World) (h : gatepostref02_value.f k a0 = some r) :
    Calls Try.prog 30 #[.string a0] w fun e w' => e = .returned (.int .i32 r) ∧ Below w.heap.size w w' := by
  have HB := Aside0.mk (Below.refl w.heap.size w)
  have H : (if (a0.size : Int) = 1 then (if 0 < (a0.size : Int) then (some (wrap32 (bt a0 0))) else (none)) else (if 0 < (a0.size : Int) then ((some (([192, 224, 240] : List Int) : List Int)).bind fun y188 => (if 0 ≤ (wrap64 ((a0.size : Int) - 2)) then (if (wrap64 ((a0.size : Int) - 2)) < (y188.length : Int) then (gatepostref02_value.l0 k a0 (wrap32 ((wrap32 (bt a0 0)) - (rd y188 (wrap64 ((a0.size : Int) - 2))))) 1) else (none)) else (none))) else (none))) = some r := h
  clear h
  by_cases c2 : (a0.size : Int) = 1
  · rw [if_pos c2] at H
    have c2b0 : ((a0.size : Int) == 1) = true := beq_iff_eq.mpr c2
    have c2b1 : ((a0.size : Int) != 1) = false := bne_eq_false_iff_eq.mpr c2
    clear c2
    by_cases c3 : 0 < (a0.size : Int)
    · rw [if_pos c3] at H
      have c3b0 : decide (0 < (a0.size : Int)) = true := decide_eq_true c3
      have c3b1 : decide (0 < a0.size) = true := decide_eq_true (by omega)
      clear c3
      obtain rfl := Option.some.inj H
      have p4 : 0 ≤ (0 : Int) := (by omega)
      have q4 : 0 < a0.size := (by have : (0 : Int) < (a0.size : Int) := of_decide_eq_true (by first | (with_reducible assumption) | assumption); omega)
      have hx4 : ∀ h : 0 < a0.size, ((a0[0]'h).toNat : Int) = bt a0 0 := bt_at a0 0
      clear p4
      have qi4 : (0 < (a0.size : Int)) = True := eq_true (of_decide_eq_true (by first | (with_reducible assumption) | assumption))
      replace q4 := eq_true q4
      go_enter Try.func30, Try.ntmps30
      go_wp2
      go_ret
      exact ⟨by first | rfl | (simp [errW_none, errW_some] <;> rfl) | (simp [*, errW_none, errW_some] <;> rfl), by repeat (first | (with_reducible first | exact HB.out | apply below_alloc | apply pw_below_drewN | apply below_drew1) | exact HB.out)⟩
    · rw [if_neg c3] at H
      exact absurd H (by simp)
  · rw [if_neg c2] at H
    have c2b0 : ((a0.size : Int) == 1) = false := beq_eq_false_iff_ne.mpr c2
    have c2b1 : ((a0.size : Int) != 1) = true := bne_iff_ne.mpr c2
    by_cases c5 : 0 < (a0.size : Int)
    · rw [if_pos c5] at H
      have c5b0 : decide (0 < (a0.size : Int)) = true := decide_eq_true c5
      have c5b1 : decide (0 < a0.size) = true := decide_eq_true (by omega)
      clear c5
      obtain ⟨y188, hy188⟩ : ∃ y_ : List Int, y_ = (([192, 224, 240] : List Int)) := ⟨_, rfl⟩
      replace H : (if 0 ≤ (wrap64 ((a0.size : Int) - 2)) then (if (wrap64 ((a0.size : Int) - 2)) < (y188.length : Int) then (gatepostref02_value.l0 k a0 (wrap32 ((wrap32 (bt a0 0)) - (rd y188 (wrap64 ((a0.size : Int) - 2))))) 1) else (none)) else (none)) = some r := by first | (rw [hy188]; with_reducible exact H) | (have H2_ := (Option.bind_some _ _).symm.trans H; rw [hy188]; with_reducible exact H2_) | (have H2_ := (Option.bind_some _ _).symm.trans H; with_reducible exact H2_) | with_reducible exact H | (rw [hy188]; exact H) | exact H
      have Ny188 := Aside0.mk hy188
      clear hy188
      obtain ⟨ji7, hji7⟩ : ∃ j_ : Int, (wrap64 ((a0.size : Int) - 2)) = j_ := ⟨_, rfl⟩
      replace H : (if 0 ≤ (ji7) then (if (ji7) < (y188.length : Int) then (gatepostref02_value.l0 k a0 (wrap32 ((wrap32 (bt a0 0)) - (rd y188 (ji7)))) 1) else (none)) else (none)) = some r := by first | (rw [hji7] at H; exact H) | (simp only [hji7] at H ⊢; exact H)
      have hji7w : (IntKind.i64.wrap ((a0.size : Int) - 2)) = ji7 := (i64_w _).trans hji7
      by_cases c8 : 0 ≤ (ji7)
      · rw [if_pos c8] at H
        have c8b0 : decide (0 ≤ (ji7)) = true := decide_eq_true c8
        clear c8
        by_cases c9 : (ji7) < (y188.length : Int)
        · rw [if_pos c9] at H
          have c9b0 : decide ((ji7) < (y188.length : Int)) = true := decide_eq_true c9
          clear c9
          have H' := Aside0.mk H
          clear H
          go_enter Try.func30, Try.ntmps30
          try go_wp2
          have pi191 : (0 ≤ ((ji7) : Int)) = True := eq_true (of_decide_eq_true (by first | (with_reducible assumption) | assumption))
          have qi191 : ((ji7) < (y188.length : Int)) = True := eq_true (of_decide_eq_true (by first | (with_reducible assumption) | assumption))
          have n0_ := Aside0.mk (below_drew1 HB.out)
          clear HB
          have HB := n0_
          clear n0_
          have p6 : 0 ≤ (0 : Int) := (by omega)
          have q6 : 0 < a0.size := (by have : (0 : Int) < (a0.size : Int) := of_decide_eq_true (by first | (with_reducible assumption) | assumption); omega)
          have hx6 : ∀ h : 0 < a0.size, ((a0[0]'h).toNat : Int) = bt a0 0 := bt_at a0 0
          clear p6
          have qi6 : (0 < (a0.size : Int)) = True := eq_true (of_decide_eq_true (by first | (with_reducible assumption) | assumption))
          replace q6 := eq_true q6
          refine start_ (n := 11) (S := fun w' => True) (ds := []) #[false, false, false, false, false, false, false, false, false, false, false] (by kernel_rfl) rfl rfl trivial (fun hHeld => ?_); refine with_tabW gatepostref02_value.tab3 gatepostref02_value.bits3 (fun HT_ HW_ => ?_)
          generalize w.drew = w10 at HB hHeld ⊢
          refine pure_ (i := 0) (N := some 11) (v := ?_) (a' := ?_) #[true, false, false, false, false, false, false, false, false, false, false] rfl rfl (any_of HT_.out (by kernel_rfl)) (fun _ _ _ h => h) (Or.inl ⟨by rfl, ?_⟩) ?_ ?_
          rotate_left
          · intro w'
            go_simp
            with_reducible rfl
          rotate_left
          · simp only [Act.put, List.setIfInBounds_toArray, List.set_cons_zero, List.set_cons_succ, i64_w, i32_w]
            rfl
          refine pure_ (i := 4) (N := some 15) (v := ?_) (a' := ?_) #[true, false, false, false, true, false, false, false, false, false, false] rfl rfl (any_of HT_.out (by kernel_rfl)) (fun _ _ _ h => h) (Or.inl ⟨by rfl, ?_⟩) ?_ ?_
          rotate_left
          · intro w'
            go_simp
            with_reducible rfl
          rotate_left
          · simp only [Act.put, List.setIfInBounds_toArray, List.set_cons_zero, List.set_cons_succ, i64_w, i32_w]
            rfl
          refine pure_ (i := 5) (N := some 16) (v := ?_) (a' := ?_) #[true, false, false, false, true, true, false, false, false, false, false] rfl rfl (any_of HT_.out (by kernel_rfl)) (fun _ _ _ h => h) (Or.inl ⟨by rfl, ?_⟩) ?_ ?_
          rotate_left
          · intro w'
            go_simp
            with_reducible rfl
          rotate_left
          · simp only [Act.put, List.setIfInBounds_toArray, List.set_cons_zero, List.set_cons_succ, i64_w, i32_w]
            rfl
          refine pure_ (i := 6) (N := some 17) (v := ?_) (a' := ?_) #[true, false, false, false, true, true, true, false, false, false, false] rfl rfl (any_of HT_.out (by kernel_rfl)) (fun _ _ _ h => h) (Or.inl ⟨by rfl, ?_⟩) ?_ ?_
          rotate_left
          · intro w'
            go_simp
            with_reducible rfl
          rotate_left
          · simp only [Act.put, List.setIfInBounds_toArray, List.set_cons_zero, List.set_cons_succ, i64_w, i32_w]
            rfl
          refine take_ (i := 1) (N := some 12) (v := ?_) (a' := ?_) #[true, true, false, false, true, true, true, false, false, false, false] rfl rfl (take_ofW HT_.out HW_.out (by kernel_rfl)) (fun _ _ _ h => h) (Or.inl ⟨by rfl, ?_⟩) hHeld ?_ ?_
          rotate_left
          · intro w' _
            go_simp
            with_reducible rfl
          rotate_left
          · simp only [Act.put, List.setIfInBounds_toArray, List.set_cons_zero, List.set_cons_succ, i64_w, i32_w]
            rfl
          refine pure_ (i := 2) (N := some 13) (v := ?_) (a' := ?_) #[true, true, true, false, true, true, true, false, false, false, false] rfl rfl (any_of HT_.out (by kernel_rfl)) (fun _ _ _ h => h) (Or.inl ⟨by rfl, ?_⟩) ?_ ?_
          rotate_left
          · intro w'
            go_simp
            with_reducible rfl
          rotate_left
          · simp only [Act.put, List.setIfInBounds_toArray, List.set_cons_zero, List.set_cons_succ, i64_w, i32_w]
            rfl
          refine one_ (i := 3) (N := some 14) #[true, true, true, true, true, true, true, false, false, false, false] rfl rfl (one_of HT_.out (by kernel_rfl)) (by decide) (fun K hK => ?_)
          refine Kd.R_lit_step (Kd.int .i32) _ 21 ?hg (N := 14) ?hd (xs := ([192, 224, 240] : List Int)) (inner := [.int .i32 192, .int .i32 224, .int .i32 240]) (ok := fun _ => True) (okp := fun _ => True) ?hr ?hp (fun _ hk => hk) trivial (Below.refl _ _) (Nat.le_refl _) (by simp) ?_; (case hd => rfl); (case hg => rfl); (case hr => first | (go_simp; done) | (go_simp; rfl)); (case hp => exact (Reps.one (show Kd.M (Kd.int .i32) _ _ _ 192 [.int .i32 192] from rfl) (Reps.one (show Kd.M (Kd.int .i32) _ _ _ 224 [.int .i32 224] from rfl) (Reps.one (show Kd.M (Kd.int .i32) _ _ _ 240 [.int .i32 240] from rfl) (Reps.none _ _)))))
          intro v189 w11 ho12 hb hg_ hnew_
          clear hg_ hnew_
          (first | rw [← Ny188.out] at ho12 | (simp only [Int.reduceToNat] at ho12; rw [← Ny188.out] at ho12))
          have n0_ := Aside0.mk (Kd.R_lower ho12 (below_size (by repeat (first | (with_reducible first | exact HB.out | apply below_alloc | apply pw_below_drewN | apply below_drew1) | exact HB.out))))
          have n1_ := Aside0.mk (below_step (by repeat (first | (with_reducible first | exact HB.out | apply below_alloc | apply pw_below_drewN | apply below_drew1) | exact HB.out)) hb)
          clear HB
          have HO190 := n0_
          have HB := n1_
          clear n0_ n1_
          clear hb ho12
          obtain ⟨Ao13, co13, eo13⟩ := Kd.R_slice HO190.out
          subst eo13
          obtain ⟨ado13, fo13, _⟩ := Kd.at_int (Kd.R_reads' HO190.out).2.2 0 (by decide) (by rw [Ny188.out]; simp)
          cases fo13
          refine hK.out _ _ trivial (fun hHeld => ?_)
          clear hK K
          refine norm_ (a' := ?_) ?_ ?_
          rotate_left
          · show Act.put _ (some 14) _ = _
            simp only [Act.put, List.setIfInBounds_toArray, List.set_cons_zero, List.set_cons_succ, i64_w, i32_w]
            rfl
          refine pure_ (i := 7) (N := some 18) (v := ?_) (a' := ?_) #[true, true, true, true, true, true, true, true, false, false, false] rfl rfl (any_of HT_.out (by kernel_rfl)) (fun _ _ _ h => h) (Or.inl ⟨by rfl, ?_⟩) ?_ ?_
          rotate_left
          · intro w'
            go_simp
            with_reducible rfl
          rotate_left
          · simp only [Act.put, List.setIfInBounds_toArray, List.set_cons_zero, List.set_cons_succ, i64_w, i32_w]
            rfl
          refine one_ (i := 8) (N := some 19) #[true, true, true, true, true, true, true, true, true, false, false] rfl rfl (one_of HT_.out (by kernel_rfl)) (by decide) (fun K hK => ?_)
          (have p191 : 0 ≤ ((ji7) : Int) := of_decide_eq_true (by first | (with_reducible assumption) | assumption); have q191 : (ji7) < (y188.length : Int) := of_decide_eq_true (by first | (with_reducible assumption) | assumption); obtain ⟨ad191, e191, hx191_0⟩ := Kd.at_int (Kd.R_reads' HO190.out).2.2 (ji7) p191 q191; obtain rfl : ado13 = ad191 := (by injection e191))
          refine value_ (w1 := ?_) (v := ?_) (by rfl) rfl ?_ ?_
          rotate_left 2
          · go_simp
            constructor
            · rfl
            · rfl
          clear hx191_0
          refine hK.out _ _ trivial (fun hHeld => ?_)
          clear hK K
          refine norm_ (a' := ?_) ?_ ?_
          rotate_left
          · show Act.put _ (some 19) _ = _
            simp only [Act.put, List.setIfInBounds_toArray, List.set_cons_zero, List.set_cons_succ, i64_w, i32_w]
            rfl
          refine pure_ (i := 9) (N := some 20) (v := ?_) (a' := ?_) #[true, true, true, true, true, true, true, true, true, true, false] rfl rfl (any_of HT_.out (by kernel_rfl)) (fun _ _ _ h => h) (Or.inl ⟨by rfl, ?_⟩) ?_ ?_
          rotate_left
          · intro w'
            go_simp
            with_reducible rfl
          rotate_left
          · simp only [Act.put, List.setIfInBounds_toArray, List.set_cons_zero, List.set_cons_succ, i64_w, i32_w]
            rfl
          refine pure_ (i := 10) (N := some 3) (v := ?_) (a' := ?_) #[true, true, true, true, true, true, true, true, true, true, true] rfl rfl (any_of HT_.out (by kernel_rfl)) (fun _ _ _ h => h) (Or.inl ⟨by rfl, ?_⟩) ?_ ?_
          rotate_left
          · intro w'
            go_simp
            with_reducible rfl
          rotate_left
          · simp only [Act.put, List.setIfInBounds_toArray, List.set_cons_zero, List.set_cons_succ, i64_w, i32_w]
            rfl
          refine done_ (done_of HT_.out (by kernel_rfl)) ?_
          try go_wp2
          go_loopg [3, 4] k (fun kq v3 v4 w' => ∃ (x3_1 : Int) (x4_1 : Int), v3 = .int .i32 x3_1 ∧ v4 = .int .i64 x4_1 ∧ Aside0 (gatepostref02_value.l0 kq a0 x3_1 x4_1 = some r) ∧ Aside0 (kq ≤ k) ∧ Aside0 (Below w.heap.size w w'))
          case atStart => exact ⟨(wrap32 ((wrap32 (bt a0 0)) - (rd y188 (ji7)))), (1), (by first | rfl | (simp; done) | (simp only [← hji7] <;> (first | rfl | simp)) | (simp [*]; done)), (by first | rfl | (simp; done) | (simp [*]; done)), H', ⟨Nat.le_refl _⟩, ⟨by repeat (first | (with_reducible first | exact HB.out | apply below_alloc | apply pw_below_drewN | apply below_drew1) | exact HB.out)⟩⟩
          case round =>
            clear H'
            try clear p1
            try clear q1
            try clear hx1
            try clear qi1
            try clear c2
            try clear c2b0
            try clear c2b1
            try clear p2
            try clear c3
            try clear c3b0
            try clear c3b1
            try clear p3
            try clear p4
            try clear q4
            try clear hx4
            try clear qi4
            try clear c5
            try clear c5b0
            try clear c5b1
            try clear p6
            try clear q6
            try clear hx6
            try clear qi6
            try clear c8
            try clear c8b0
            try clear c9
            try clear c9b0
            try clear hx191_0
            try clear p191
            try clear p4
            try clear p6
            try clear q191
            try clear q4
            try clear q6
            obtain ⟨x3_1, x4_1, rfl, rfl, HA, HK1, HB⟩ := hrel
            cases gk with
            | zero => exact absurd HA.out (by simp [gatepostref02_value.l0])
            | succ k1 =>
              have H := HA.out
              clear HA
              simp only [gatepostref02_value.l0] at H
              by_cases c14 : x4_1 < (a0.size : Int)
              · rw [if_pos c14] at H
                have c14b0 : decide (x4_1 < (a0.size : Int)) = true := decide_eq_true c14
                clear c14
                by_cases c15 : 0 ≤ x4_1
                · rw [if_pos c15] at H
                  have c15b0 : decide (0 ≤ x4_1) = true := decide_eq_true c15
                  clear c15
                  have H' := Aside0.mk H
                  clear H
                  have p16 : 0 ≤ (x4_1 : Int) := of_decide_eq_true (by first | (with_reducible assumption) | assumption)
                  have q16 : x4_1 < (a0.size : Int) := of_decide_eq_true (by first | (with_reducible assumption) | assumption)
                  have hx16 := bt_at a0 x4_1
                  replace p16 := eq_true p16
                  replace q16 := eq_true q16
                  go_wp2
                  go_roundg k1
                  case measure => have := HK1.out; omega
                  case rel => exact ⟨(wrap32 ((wrap32 ((wrap32 (64 * x3_1)) + (wrap32 (bt a0 x4_1)))) - 128)), (wrap64 (x4_1 + 1)), (by first | rfl | (simp; done) | (simp [*]; done)), (by first | rfl | (simp; done) | (simp [*]; done)), H', ⟨by have := HK1.out; omega⟩, ⟨by repeat (first | (with_reducible first | exact HB.out | apply below_alloc | apply pw_below_drewN | apply below_drew1) | exact HB.out)⟩⟩
                · rw [if_neg c15] at H
                  exact absurd H (by simp)
              · rw [if_neg c14] at H
                have c14b0 : decide (x4_1 < (a0.size : Int)) = false := decide_eq_false c14
                clear c14
                obtain rfl := Option.some.inj H
                go_wp2
                go_ret
                exact ⟨by first | rfl | (simp [errW_none, errW_some] <;> rfl) | (simp only [← hji7]; first | rfl | (simp [errW_none, errW_some] <;> rfl)) | (simp [*, errW_none, errW_some] <;> rfl), by repeat (first | (with_reducible first | exact HB.out | apply below_alloc | apply pw_below_drewN | apply below_drew1) | exact HB.out)⟩
        · rw [if_neg c9] at H
          exact absurd H (by simp)
      · rw [if_neg c8] at H
        exact absurd H (by simp)
    · rw [if_neg c5] at H
      exact absurd H (by simp)

end Go.Proofs.Ytbdiklhffngjmaa.PPct
