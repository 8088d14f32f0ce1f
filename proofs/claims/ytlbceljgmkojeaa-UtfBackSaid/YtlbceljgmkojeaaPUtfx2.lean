/- Proved here: that functions of the program come to what plain Lean functions say, and (where it stands) the row of a law. No condition beyond that of the rows. Laid by a program of this session (wip/printgiven.py) out of the print of the translation. -/
import Derived.Test.YtlbceljgmkojeaaPUtfx0
namespace Go.Proofs.Ytlbceljgmkojeaa.PUtf
open Go.RowKit Go.Proofs.YtlbceljgmkojeaaW.PrintWords Go.Proofs.YtlbceljgmkojeaaW.PrintLast Go.Proofs.YtlbceljgmkojeaaW.PrintMore
attribute [local go_sem] max2_int min2_int max_two min_two max_three min_three max_four min_four   -- for this text's walks alone
set_option linter.unusedVariables false
set_option linter.unusedSimpArgs false

/-! ### gatepostref02_many: function 19 -/
mutual
def gatepostref02_many.j0 : Nat → Int → Bool → Option (Int)
  | 0, _, _ => none
  | k + 1, x0, x10 => if x10 = true then (some 2) else (if x0 ≥ 224 then (gatepostref02_many.j1 k x0 (decide (x0 ≤ 239))) else (gatepostref02_many.j1 k x0 false))
def gatepostref02_many.j1 : Nat → Int → Bool → Option (Int)
  | 0, _, _ => none
  | k + 1, x0, x16 => if x16 = true then (some 3) else (if x0 ≥ 240 then (if x0 ≤ 244 then (some 4) else (some 0)) else (some 0))
end
def gatepostref02_many.f (k : Nat) (a0 : Int) : Option (Int) := if a0 < 128 then (some 1) else (if a0 ≥ 194 then (gatepostref02_many.j0 k a0 (decide (a0 ≤ 223))) else (gatepostref02_many.j0 k a0 false))
theorem gatepostref02_many.mono_l : ∀ k, (∀ y0 y1, LeO (gatepostref02_many.j0 k y0 y1) (gatepostref02_many.j0 (k + 1) y0 y1)) ∧ (∀ y0 y1, LeO (gatepostref02_many.j1 k y0 y1) (gatepostref02_many.j1 (k + 1) y0 y1))
  | 0 => ⟨fun _ _ r h => by simp [gatepostref02_many.j0] at h, fun _ _ r h => by simp [gatepostref02_many.j1] at h⟩
  | k + 1 => by
    obtain ⟨ih0, ih1⟩ := gatepostref02_many.mono_l k
    refine ⟨?_, ?_⟩
    · intro y0 y1
      unfold gatepostref02_many.j0
      repeat' first
      | (with_reducible exact ih0 _ _)
      | (with_reducible exact ih1 _ _)
      | (with_reducible exact LeO.refl _)
      | (with_reducible exact LeO.none _)
      | (with_reducible refine LeO.ite ?_ ?_)
      | (with_reducible refine LeO.bind ?_ (fun _ => ?_))
      | exact ih0 _ _
      | exact ih1 _ _
      | exact LeO.none _
      | refine LeO.ite ?_ ?_
      | refine LeO.bind ?_ (fun _ => ?_)
    · intro y0 y1
      unfold gatepostref02_many.j1
      repeat' first
      | (with_reducible exact ih0 _ _)
      | (with_reducible exact ih1 _ _)
      | (with_reducible exact LeO.refl _)
      | (with_reducible exact LeO.none _)
      | (with_reducible refine LeO.ite ?_ ?_)
      | (with_reducible refine LeO.bind ?_ (fun _ => ?_))
      | exact ih0 _ _
      | exact ih1 _ _
      | exact LeO.none _
      | refine LeO.ite ?_ ?_
      | refine LeO.bind ?_ (fun _ => ?_)
theorem gatepostref02_many.mono : ∀ a0 k, LeO (gatepostref02_many.f k a0) (gatepostref02_many.f (k + 1) a0) := by
  intro a0 k
  obtain ⟨ih0, ih1⟩ := gatepostref02_many.mono_l k
  unfold gatepostref02_many.f
  repeat' first
      | (with_reducible exact ih0 _ _)
      | (with_reducible exact ih1 _ _)
      | (with_reducible exact LeO.refl _)
      | (with_reducible exact LeO.none _)
      | (with_reducible refine LeO.ite ?_ ?_)
      | (with_reducible refine LeO.bind ?_ (fun _ => ?_))
      | exact ih0 _ _
      | exact ih1 _ _
      | exact LeO.none _
      | refine LeO.ite ?_ ?_
      | refine LeO.bind ?_ (fun _ => ?_)
set_option maxHeartbeats 8000000 in
set_option maxRecDepth 100000 in
theorem gatepostref02_many.calls (k : Nat) (a0 : Int) (r : Int) (w : World) (h : gatepostref02_many.f k a0 = some r) :
    Calls Try.prog 19 #[.int .u8 a0] w fun e w' => e = .returned (.int .i64 r) ∧ Drawn0 w w' := by
  have H : (if a0 < 128 then (some 1) else (if a0 ≥ 194 then (gatepostref02_many.j0 k a0 (decide (a0 ≤ 223))) else (gatepostref02_many.j0 k a0 false))) = some r := h
  clear h
  by_cases c2 : a0 < 128
  · rw [if_pos c2] at H
    have c2b0 : decide (a0 < 128) = true := decide_eq_true c2
    clear c2
    obtain rfl := Option.some.inj H
    go_enter Try.func19, Try.ntmps19
    go_wp2
    go_ret
    exact ⟨by first | rfl | (simp; done) | (simp [*]; done), by repeat (first | exact Drawn0.refl _ | apply Drawn0.step)⟩
  · rw [if_neg c2] at H
    have c2b0 : decide (a0 < 128) = false := decide_eq_false c2
    clear c2
    have HC3 := Aside0.mk H
    clear H
    go_enter Try.func19, Try.ntmps19
    go_upto_region 3 with (fail)
    go_cut [10] (fun v10 wc => ∃ (kq : Nat) (x10_2 : Bool), v10 = .bool x10_2 ∧ Aside0 (gatepostref02_many.j0 kq a0 x10_2 = some r) ∧ Aside0 (kq ≤ k) ∧ Drawn0 w wc)
    case first =>
      have H := HC3.out
      clear HC3
      by_cases c4 : a0 ≥ 194
      · rw [if_pos c4] at H
        have c4b0 : decide (194 ≤ a0) = true := decide_eq_true c4
        clear c4
        (first | rw [c4b0] | (simp only [i64_w, i32_w]; rw [c4b0]) | skip)
        have H' := Aside0.mk H
        clear H
        go_wp2
        go_meet
        case rel => exact ⟨_, (decide (a0 ≤ 223)), (by first | rfl | (simp; done) | (simp [*]; done)), H', ⟨by first | omega | exact Nat.le_refl _⟩, by repeat (first | exact Drawn0.refl _ | apply Drawn0.step)⟩
      · rw [if_neg c4] at H
        have c4b0 : decide (194 ≤ a0) = false := decide_eq_false c4
        clear c4
        (first | rw [c4b0] | (simp only [i64_w, i32_w]; rw [c4b0]) | skip)
        have H' := Aside0.mk H
        clear H
        go_wp2
        go_meet
        case rel => exact ⟨_, (false), (by first | rfl | (simp; done) | (simp [*]; done)), H', ⟨by first | omega | exact Nat.le_refl _⟩, by repeat (first | exact Drawn0.refl _ | apply Drawn0.step)⟩
    case rest =>
      clear HC3
      try clear c1
      try clear c2
      try clear c2b0
      try clear p2
      try clear c4
      try clear c4b0
      obtain ⟨kq, x10_2, rfl, HA, HJ2, ⟨mc2, rfl⟩⟩ := hcut
      cases kq with
      | zero => exact absurd HA.out (by simp [gatepostref02_many.j0])
      | succ kj2 =>
        have H := HA.out
        clear HA
        simp only [gatepostref02_many.j0] at H
        by_cases c5 : x10_2 = true
        · subst c5
          have H1 : (some 2) = some r := by rw [if_pos rfl] at H; exact H
          clear H
          have H := H1
          clear H1
          obtain rfl := Option.some.inj H
          go_wp2
          go_ret
          exact ⟨by first | rfl | (simp; done) | (simp [*]; done), by repeat (first | exact Drawn0.refl _ | apply Drawn0.step)⟩
        · replace c5 := Bool.eq_false_iff.mpr c5
          subst c5
          have H1 : (if a0 ≥ 224 then (gatepostref02_many.j1 kj2 a0 (decide (a0 ≤ 239))) else (gatepostref02_many.j1 kj2 a0 false)) = some r := by rw [if_neg (show ¬ (false = true) by decide)] at H; exact H
          clear H
          have H := H1
          clear H1
          have HC6 := Aside0.mk H
          clear H
          go_upto_region 5 with (fail)
          go_cut [16] (fun v16 wc => ∃ (kq : Nat) (x16_5 : Bool), v16 = .bool x16_5 ∧ Aside0 (gatepostref02_many.j1 kq a0 x16_5 = some r) ∧ Aside0 (kq ≤ kj2) ∧ Drawn0 w wc)
          case first =>
            have H := HC6.out
            clear HC6
            by_cases c7 : a0 ≥ 224
            · rw [if_pos c7] at H
              have c7b0 : decide (224 ≤ a0) = true := decide_eq_true c7
              clear c7
              (first | rw [c7b0] | (simp only [i64_w, i32_w]; rw [c7b0]) | skip)
              have H' := Aside0.mk H
              clear H
              go_wp2
              go_meet
              case rel => exact ⟨_, (decide (a0 ≤ 239)), (by first | rfl | (simp; done) | (simp [*]; done)), H', ⟨by have := HJ2.out; first | omega | exact Nat.le_refl _⟩, by repeat (first | exact Drawn0.refl _ | apply Drawn0.step)⟩
            · rw [if_neg c7] at H
              have c7b0 : decide (224 ≤ a0) = false := decide_eq_false c7
              clear c7
              (first | rw [c7b0] | (simp only [i64_w, i32_w]; rw [c7b0]) | skip)
              have H' := Aside0.mk H
              clear H
              go_wp2
              go_meet
              case rel => exact ⟨_, (false), (by first | rfl | (simp; done) | (simp [*]; done)), H', ⟨by have := HJ2.out; first | omega | exact Nat.le_refl _⟩, by repeat (first | exact Drawn0.refl _ | apply Drawn0.step)⟩
          case rest =>
            clear HC6
            try clear c1
            try clear c2
            try clear c2b0
            try clear p2
            try clear c4
            try clear c4b0
            try clear c5
            try clear c7
            try clear c7b0
            try clear p2
            obtain ⟨kq, x16_5, rfl, HA, HJ5, ⟨mc5, rfl⟩⟩ := hcut
            cases kq with
            | zero => exact absurd HA.out (by simp [gatepostref02_many.j1])
            | succ kj5 =>
              have H := HA.out
              clear HA
              simp only [gatepostref02_many.j1] at H
              by_cases c8 : x16_5 = true
              · subst c8
                have H1 : (some 3) = some r := by rw [if_pos rfl] at H; exact H
                clear H
                have H := H1
                clear H1
                obtain rfl := Option.some.inj H
                go_wp2
                go_ret
                exact ⟨by first | rfl | (simp; done) | (simp [*]; done), by repeat (first | exact Drawn0.refl _ | apply Drawn0.step)⟩
              · replace c8 := Bool.eq_false_iff.mpr c8
                subst c8
                have H1 : (if a0 ≥ 240 then (if a0 ≤ 244 then (some 4) else (some 0)) else (some 0)) = some r := by rw [if_neg (show ¬ (false = true) by decide)] at H; exact H
                clear H
                have H := H1
                clear H1
                by_cases c9 : a0 ≥ 240
                · rw [if_pos c9] at H
                  have c9b0 : decide (240 ≤ a0) = true := decide_eq_true c9
                  clear c9
                  by_cases c10 : a0 ≤ 244
                  · rw [if_pos c10] at H
                    have c10b0 : decide (a0 ≤ 244) = true := decide_eq_true c10
                    clear c10
                    obtain rfl := Option.some.inj H
                    go_wp2
                    go_ret
                    exact ⟨by first | rfl | (simp; done) | (simp [*]; done), by repeat (first | exact Drawn0.refl _ | apply Drawn0.step)⟩
                  · rw [if_neg c10] at H
                    have c10b0 : decide (a0 ≤ 244) = false := decide_eq_false c10
                    clear c10
                    obtain rfl := Option.some.inj H
                    go_wp2
                    go_ret
                    exact ⟨by first | rfl | (simp; done) | (simp [*]; done), by repeat (first | exact Drawn0.refl _ | apply Drawn0.step)⟩
                · rw [if_neg c9] at H
                  have c9b0 : decide (240 ≤ a0) = false := decide_eq_false c9
                  clear c9
                  obtain rfl := Option.some.inj H
                  go_wp2
                  go_ret
                  exact ⟨by first | rfl | (simp; done) | (simp [*]; done), by repeat (first | exact Drawn0.refl _ | apply Drawn0.step)⟩

/-! ### gatepostref02_follows: function 25 -/
def gatepostref02_follows.j0 : Nat → Int → Int → Int → Bool → Option (Bool)
  | 0, _, _, _, _ => none
  | k + 1, x0, x1, x2, x12 => if x12 = true then (some false) else (if x2 > 1 then (some true) else (if x0 = 224 then (if x1 < 160 then (some (!true)) else (if x0 = 237 then (if x1 > 159 then (some (!true)) else (if x0 = 240 then (if x1 < 144 then (some (!true)) else (if x0 = 244 then (some (!(decide (x1 > 143)))) else (some (!false)))) else (if x0 = 244 then (some (!(decide (x1 > 143)))) else (some (!false))))) else (if x0 = 240 then (if x1 < 144 then (some (!true)) else (if x0 = 244 then (some (!(decide (x1 > 143)))) else (some (!false)))) else (if x0 = 244 then (some (!(decide (x1 > 143)))) else (some (!false)))))) else (if x0 = 237 then (if x1 > 159 then (some (!true)) else (if x0 = 240 then (if x1 < 144 then (some (!true)) else (if x0 = 244 then (some (!(decide (x1 > 143)))) else (some (!false)))) else (if x0 = 244 then (some (!(decide (x1 > 143)))) else (some (!false))))) else (if x0 = 240 then (if x1 < 144 then (some (!true)) else (if x0 = 244 then (some (!(decide (x1 > 143)))) else (some (!false)))) else (if x0 = 244 then (some (!(decide (x1 > 143)))) else (some (!false)))))))
def gatepostref02_follows.f (k : Nat) (a0 : Int) (a1 : Int) (a2 : Int) : Option (Bool) := if a1 < 128 then (gatepostref02_follows.j0 k a0 a1 a2 true) else (gatepostref02_follows.j0 k a0 a1 a2 (decide (a1 > 191)))
theorem gatepostref02_follows.mono_l : ∀ k, (∀ y0 y1 y2 y3, LeO (gatepostref02_follows.j0 k y0 y1 y2 y3) (gatepostref02_follows.j0 (k + 1) y0 y1 y2 y3))
  | 0 => fun _ _ _ _ r h => by simp [gatepostref02_follows.j0] at h
  | k + 1 => by
    have ih0 := gatepostref02_follows.mono_l k
    · intro y0 y1 y2 y3
      unfold gatepostref02_follows.j0
      repeat' first
      | (with_reducible exact ih0 _ _ _ _)
      | (with_reducible exact LeO.refl _)
      | (with_reducible exact LeO.none _)
      | (with_reducible refine LeO.ite ?_ ?_)
      | (with_reducible refine LeO.bind ?_ (fun _ => ?_))
      | exact ih0 _ _ _ _
      | exact LeO.none _
      | refine LeO.ite ?_ ?_
      | refine LeO.bind ?_ (fun _ => ?_)
theorem gatepostref02_follows.mono : ∀ a0 a1 a2 k, LeO (gatepostref02_follows.f k a0 a1 a2) (gatepostref02_follows.f (k + 1) a0 a1 a2) := by
  intro a0 a1 a2 k
  have ih0 := gatepostref02_follows.mono_l k
  unfold gatepostref02_follows.f
  repeat' first
      | (with_reducible exact ih0 _ _ _ _)
      | (with_reducible exact LeO.refl _)
      | (with_reducible exact LeO.none _)
      | (with_reducible refine LeO.ite ?_ ?_)
      | (with_reducible refine LeO.bind ?_ (fun _ => ?_))
      | exact ih0 _ _ _ _
      | exact LeO.none _
      | refine LeO.ite ?_ ?_
      | refine LeO.bind ?_ (fun _ => ?_)
set_option maxHeartbeats 8000000 in
set_option maxRecDepth 100000 in
theorem gatepostref02_follows.calls (k : Nat) (a0 : Int) (a1 : Int) (a2 : Int) (r : Bool) (w : World) (h : gatepostref02_follows.f k a0 a1 a2 = some r) :
    Calls Try.prog 25 #[.int .u8 a0, .int .u8 a1, .int .i64 a2] w fun e w' => e = .returned (.bool r) ∧ Drawn0 w w' := by
  have H : (if a1 < 128 then (gatepostref02_follows.j0 k a0 a1 a2 true) else (gatepostref02_follows.j0 k a0 a1 a2 (decide (a1 > 191)))) = some r := h
  clear h
  have HC4 := Aside0.mk H
  clear H
  go_enter Try.func25, Try.ntmps25
  go_upto_region 1 with (fail)
  go_cut [12] (fun v12 wc => ∃ (kq : Nat) (x12_3 : Bool), v12 = .bool x12_3 ∧ Aside0 (gatepostref02_follows.j0 kq a0 a1 a2 x12_3 = some r) ∧ Aside0 (kq ≤ k) ∧ Drawn0 w wc)
  case first =>
    have H := HC4.out
    clear HC4
    by_cases c5 : a1 < 128
    · rw [if_pos c5] at H
      have c5b0 : decide (a1 < 128) = true := decide_eq_true c5
      clear c5
      (first | rw [c5b0] | (simp only [i64_w, i32_w]; rw [c5b0]) | skip)
      have H' := Aside0.mk H
      clear H
      go_wp2
      go_meet
      case rel => exact ⟨_, (true), (by first | rfl | (simp; done) | (simp [*]; done)), H', ⟨by first | omega | exact Nat.le_refl _⟩, by repeat (first | exact Drawn0.refl _ | apply Drawn0.step)⟩
    · rw [if_neg c5] at H
      have c5b0 : decide (a1 < 128) = false := decide_eq_false c5
      clear c5
      (first | rw [c5b0] | (simp only [i64_w, i32_w]; rw [c5b0]) | skip)
      have H' := Aside0.mk H
      clear H
      go_wp2
      go_meet
      case rel => exact ⟨_, (decide (a1 > 191)), (by first | rfl | (simp; done) | (simp [*]; done)), H', ⟨by first | omega | exact Nat.le_refl _⟩, by repeat (first | exact Drawn0.refl _ | apply Drawn0.step)⟩
  case rest =>
    clear HC4
    try clear c2
    try clear p2
    try clear c5
    try clear c5b0
    obtain ⟨kq, x12_3, rfl, HA, HJ3, ⟨mc3, rfl⟩⟩ := hcut
    cases kq with
    | zero => exact absurd HA.out (by simp [gatepostref02_follows.j0])
    | succ kj3 =>
      have H := HA.out
      clear HA
      simp only [gatepostref02_follows.j0] at H
      by_cases c6 : x12_3 = true
      · subst c6
        have H1 : (some false) = some r := by rw [if_pos rfl] at H; exact H
        clear H
        have H := H1
        clear H1
        obtain rfl := Option.some.inj H
        go_wp2
        go_ret
        exact ⟨by first | rfl | (simp; done) | (simp [*]; done), by repeat (first | exact Drawn0.refl _ | apply Drawn0.step)⟩
      · replace c6 := Bool.eq_false_iff.mpr c6
        subst c6
        have H1 : (if a2 > 1 then (some true) else (if a0 = 224 then (if a1 < 160 then (some (!true)) else (if a0 = 237 then (if a1 > 159 then (some (!true)) else (if a0 = 240 then (if a1 < 144 then (some (!true)) else (if a0 = 244 then (some (!(decide (a1 > 143)))) else (some (!false)))) else (if a0 = 244 then (some (!(decide (a1 > 143)))) else (some (!false))))) else (if a0 = 240 then (if a1 < 144 then (some (!true)) else (if a0 = 244 then (some (!(decide (a1 > 143)))) else (some (!false)))) else (if a0 = 244 then (some (!(decide (a1 > 143)))) else (some (!false)))))) else (if a0 = 237 then (if a1 > 159 then (some (!true)) else (if a0 = 240 then (if a1 < 144 then (some (!true)) else (if a0 = 244 then (some (!(decide (a1 > 143)))) else (some (!false)))) else (if a0 = 244 then (some (!(decide (a1 > 143)))) else (some (!false))))) else (if a0 = 240 then (if a1 < 144 then (some (!true)) else (if a0 = 244 then (some (!(decide (a1 > 143)))) else (some (!false)))) else (if a0 = 244 then (some (!(decide (a1 > 143)))) else (some (!false))))))) = some r := by rw [if_neg (show ¬ (false = true) by decide)] at H; exact H
        clear H
        have H := H1
        clear H1
        by_cases c7 : a2 > 1
        · rw [if_pos c7] at H
          have c7b0 : decide (1 < a2) = true := decide_eq_true c7
          clear c7
          obtain rfl := Option.some.inj H
          go_wp2
          go_ret
          exact ⟨by first | rfl | (simp; done) | (simp [*]; done), by repeat (first | exact Drawn0.refl _ | apply Drawn0.step)⟩
        · rw [if_neg c7] at H
          have c7b0 : decide (1 < a2) = false := decide_eq_false c7
          clear c7
          by_cases c8 : a0 = 224
          · rw [if_pos c8] at H
            have c8b0 : (a0 == 224) = true := beq_iff_eq.mpr c8
            have c8b1 : (a0 != 224) = false := bne_eq_false_iff_eq.mpr c8
            clear c8
            by_cases c9 : a1 < 160
            · rw [if_pos c9] at H
              have c9b0 : decide (a1 < 160) = true := decide_eq_true c9
              clear c9
              obtain rfl := Option.some.inj H
              go_wp2
              go_ret
              exact ⟨by first | rfl | (simp; done) | (simp [*]; done), by repeat (first | exact Drawn0.refl _ | apply Drawn0.step)⟩
            · rw [if_neg c9] at H
              have c9b0 : decide (a1 < 160) = false := decide_eq_false c9
              clear c9
              by_cases c10 : a0 = 237
              · rw [if_pos c10] at H
                have c10b0 : (a0 == 237) = true := beq_iff_eq.mpr c10
                have c10b1 : (a0 != 237) = false := bne_eq_false_iff_eq.mpr c10
                clear c10
                by_cases c11 : a1 > 159
                · rw [if_pos c11] at H
                  have c11b0 : decide (159 < a1) = true := decide_eq_true c11
                  clear c11
                  obtain rfl := Option.some.inj H
                  go_wp2
                  go_ret
                  exact ⟨by first | rfl | (simp; done) | (simp [*]; done), by repeat (first | exact Drawn0.refl _ | apply Drawn0.step)⟩
                · rw [if_neg c11] at H
                  have c11b0 : decide (159 < a1) = false := decide_eq_false c11
                  clear c11
                  by_cases c12 : a0 = 240
                  · rw [if_pos c12] at H
                    have c12b0 : (a0 == 240) = true := beq_iff_eq.mpr c12
                    have c12b1 : (a0 != 240) = false := bne_eq_false_iff_eq.mpr c12
                    clear c12
                    by_cases c13 : a1 < 144
                    · rw [if_pos c13] at H
                      have c13b0 : decide (a1 < 144) = true := decide_eq_true c13
                      clear c13
                      obtain rfl := Option.some.inj H
                      go_wp2
                      go_ret
                      exact ⟨by first | rfl | (simp; done) | (simp [*]; done), by repeat (first | exact Drawn0.refl _ | apply Drawn0.step)⟩
                    · rw [if_neg c13] at H
                      have c13b0 : decide (a1 < 144) = false := decide_eq_false c13
                      clear c13
                      by_cases c14 : a0 = 244
                      · rw [if_pos c14] at H
                        have c14b0 : (a0 == 244) = true := beq_iff_eq.mpr c14
                        have c14b1 : (a0 != 244) = false := bne_eq_false_iff_eq.mpr c14
                        clear c14
                        obtain rfl := Option.some.inj H
                        go_wp2
                        go_ret
                        exact ⟨by first | rfl | (simp; done) | (simp [*]; done), by repeat (first | exact Drawn0.refl _ | apply Drawn0.step)⟩
                      · rw [if_neg c14] at H
                        have c14b0 : (a0 == 244) = false := beq_eq_false_iff_ne.mpr c14
                        have c14b1 : (a0 != 244) = true := bne_iff_ne.mpr c14
                        obtain rfl := Option.some.inj H
                        go_wp2
                        go_ret
                        exact ⟨by first | rfl | (simp; done) | (simp [*]; done), by repeat (first | exact Drawn0.refl _ | apply Drawn0.step)⟩
                  · rw [if_neg c12] at H
                    have c12b0 : (a0 == 240) = false := beq_eq_false_iff_ne.mpr c12
                    have c12b1 : (a0 != 240) = true := bne_iff_ne.mpr c12
                    by_cases c15 : a0 = 244
                    · rw [if_pos c15] at H
                      have c15b0 : (a0 == 244) = true := beq_iff_eq.mpr c15
                      have c15b1 : (a0 != 244) = false := bne_eq_false_iff_eq.mpr c15
                      clear c15
                      obtain rfl := Option.some.inj H
                      go_wp2
                      go_ret
                      exact ⟨by first | rfl | (simp; done) | (simp [*]; done), by repeat (first | exact Drawn0.refl _ | apply Drawn0.step)⟩
                    · rw [if_neg c15] at H
                      have c15b0 : (a0 == 244) = false := beq_eq_false_iff_ne.mpr c15
                      have c15b1 : (a0 != 244) = true := bne_iff_ne.mpr c15
                      obtain rfl := Option.some.inj H
                      go_wp2
                      go_ret
                      exact ⟨by first | rfl | (simp; done) | (simp [*]; done), by repeat (first | exact Drawn0.refl _ | apply Drawn0.step)⟩
              · rw [if_neg c10] at H
                have c10b0 : (a0 == 237) = false := beq_eq_false_iff_ne.mpr c10
                have c10b1 : (a0 != 237) = true := bne_iff_ne.mpr c10
                by_cases c16 : a0 = 240
                · rw [if_pos c16] at H
                  have c16b0 : (a0 == 240) = true := beq_iff_eq.mpr c16
                  have c16b1 : (a0 != 240) = false := bne_eq_false_iff_eq.mpr c16
                  clear c16
                  by_cases c17 : a1 < 144
                  · rw [if_pos c17] at H
                    have c17b0 : decide (a1 < 144) = true := decide_eq_true c17
                    clear c17
                    obtain rfl := Option.some.inj H
                    go_wp2
                    go_ret
                    exact ⟨by first | rfl | (simp; done) | (simp [*]; done), by repeat (first | exact Drawn0.refl _ | apply Drawn0.step)⟩
                  · rw [if_neg c17] at H
                    have c17b0 : decide (a1 < 144) = false := decide_eq_false c17
                    clear c17
                    by_cases c18 : a0 = 244
                    · rw [if_pos c18] at H
                      have c18b0 : (a0 == 244) = true := beq_iff_eq.mpr c18
                      have c18b1 : (a0 != 244) = false := bne_eq_false_iff_eq.mpr c18
                      clear c18
                      obtain rfl := Option.some.inj H
                      go_wp2
                      go_ret
                      exact ⟨by first | rfl | (simp; done) | (simp [*]; done), by repeat (first | exact Drawn0.refl _ | apply Drawn0.step)⟩
                    · rw [if_neg c18] at H
                      have c18b0 : (a0 == 244) = false := beq_eq_false_iff_ne.mpr c18
                      have c18b1 : (a0 != 244) = true := bne_iff_ne.mpr c18
                      obtain rfl := Option.some.inj H
                      go_wp2
                      go_ret
                      exact ⟨by first | rfl | (simp; done) | (simp [*]; done), by repeat (first | exact Drawn0.refl _ | apply Drawn0.step)⟩
                · rw [if_neg c16] at H
                  have c16b0 : (a0 == 240) = false := beq_eq_false_iff_ne.mpr c16
                  have c16b1 : (a0 != 240) = true := bne_iff_ne.mpr c16
                  by_cases c19 : a0 = 244
                  · rw [if_pos c19] at H
                    have c19b0 : (a0 == 244) = true := beq_iff_eq.mpr c19
                    have c19b1 : (a0 != 244) = false := bne_eq_false_iff_eq.mpr c19
                    clear c19
                    obtain rfl := Option.some.inj H
                    go_wp2
                    go_ret
                    exact ⟨by first | rfl | (simp; done) | (simp [*]; done), by repeat (first | exact Drawn0.refl _ | apply Drawn0.step)⟩
                  · rw [if_neg c19] at H
                    have c19b0 : (a0 == 244) = false := beq_eq_false_iff_ne.mpr c19
                    have c19b1 : (a0 != 244) = true := bne_iff_ne.mpr c19
                    obtain rfl := Option.some.inj H
                    go_wp2
                    go_ret
                    exact ⟨by first | rfl | (simp; done) | (simp [*]; done), by repeat (first | exact Drawn0.refl _ | apply Drawn0.step)⟩
          · rw [if_neg c8] at H
            have c8b0 : (a0 == 224) = false := beq_eq_false_iff_ne.mpr c8
            have c8b1 : (a0 != 224) = true := bne_iff_ne.mpr c8
            by_cases c20 : a0 = 237
            · rw [if_pos c20] at H
              have c20b0 : (a0 == 237) = true := beq_iff_eq.mpr c20
              have c20b1 : (a0 != 237) = false := bne_eq_false_iff_eq.mpr c20
              clear c20
              by_cases c21 : a1 > 159
              · rw [if_pos c21] at H
                have c21b0 : decide (159 < a1) = true := decide_eq_true c21
                clear c21
                obtain rfl := Option.some.inj H
                go_wp2
                go_ret
                exact ⟨by first | rfl | (simp; done) | (simp [*]; done), by repeat (first | exact Drawn0.refl _ | apply Drawn0.step)⟩
              · rw [if_neg c21] at H
                have c21b0 : decide (159 < a1) = false := decide_eq_false c21
                clear c21
                by_cases c22 : a0 = 240
                · rw [if_pos c22] at H
                  have c22b0 : (a0 == 240) = true := beq_iff_eq.mpr c22
                  have c22b1 : (a0 != 240) = false := bne_eq_false_iff_eq.mpr c22
                  clear c22
                  by_cases c23 : a1 < 144
                  · rw [if_pos c23] at H
                    have c23b0 : decide (a1 < 144) = true := decide_eq_true c23
                    clear c23
                    obtain rfl := Option.some.inj H
                    go_wp2
                    go_ret
                    exact ⟨by first | rfl | (simp; done) | (simp [*]; done), by repeat (first | exact Drawn0.refl _ | apply Drawn0.step)⟩
                  · rw [if_neg c23] at H
                    have c23b0 : decide (a1 < 144) = false := decide_eq_false c23
                    clear c23
                    by_cases c24 : a0 = 244
                    · rw [if_pos c24] at H
                      have c24b0 : (a0 == 244) = true := beq_iff_eq.mpr c24
                      have c24b1 : (a0 != 244) = false := bne_eq_false_iff_eq.mpr c24
                      clear c24
                      obtain rfl := Option.some.inj H
                      go_wp2
                      go_ret
                      exact ⟨by first | rfl | (simp; done) | (simp [*]; done), by repeat (first | exact Drawn0.refl _ | apply Drawn0.step)⟩
                    · rw [if_neg c24] at H
                      have c24b0 : (a0 == 244) = false := beq_eq_false_iff_ne.mpr c24
                      have c24b1 : (a0 != 244) = true := bne_iff_ne.mpr c24
                      obtain rfl := Option.some.inj H
                      go_wp2
                      go_ret
                      exact ⟨by first | rfl | (simp; done) | (simp [*]; done), by repeat (first | exact Drawn0.refl _ | apply Drawn0.step)⟩
                · rw [if_neg c22] at H
                  have c22b0 : (a0 == 240) = false := beq_eq_false_iff_ne.mpr c22
                  have c22b1 : (a0 != 240) = true := bne_iff_ne.mpr c22
                  by_cases c25 : a0 = 244
                  · rw [if_pos c25] at H
                    have c25b0 : (a0 == 244) = true := beq_iff_eq.mpr c25
                    have c25b1 : (a0 != 244) = false := bne_eq_false_iff_eq.mpr c25
                    clear c25
                    obtain rfl := Option.some.inj H
                    go_wp2
                    go_ret
                    exact ⟨by first | rfl | (simp; done) | (simp [*]; done), by repeat (first | exact Drawn0.refl _ | apply Drawn0.step)⟩
                  · rw [if_neg c25] at H
                    have c25b0 : (a0 == 244) = false := beq_eq_false_iff_ne.mpr c25
                    have c25b1 : (a0 != 244) = true := bne_iff_ne.mpr c25
                    obtain rfl := Option.some.inj H
                    go_wp2
                    go_ret
                    exact ⟨by first | rfl | (simp; done) | (simp [*]; done), by repeat (first | exact Drawn0.refl _ | apply Drawn0.step)⟩
            · rw [if_neg c20] at H
              have c20b0 : (a0 == 237) = false := beq_eq_false_iff_ne.mpr c20
              have c20b1 : (a0 != 237) = true := bne_iff_ne.mpr c20
              by_cases c26 : a0 = 240
              · rw [if_pos c26] at H
                have c26b0 : (a0 == 240) = true := beq_iff_eq.mpr c26
                have c26b1 : (a0 != 240) = false := bne_eq_false_iff_eq.mpr c26
                clear c26
                by_cases c27 : a1 < 144
                · rw [if_pos c27] at H
                  have c27b0 : decide (a1 < 144) = true := decide_eq_true c27
                  clear c27
                  obtain rfl := Option.some.inj H
                  go_wp2
                  go_ret
                  exact ⟨by first | rfl | (simp; done) | (simp [*]; done), by repeat (first | exact Drawn0.refl _ | apply Drawn0.step)⟩
                · rw [if_neg c27] at H
                  have c27b0 : decide (a1 < 144) = false := decide_eq_false c27
                  clear c27
                  by_cases c28 : a0 = 244
                  · rw [if_pos c28] at H
                    have c28b0 : (a0 == 244) = true := beq_iff_eq.mpr c28
                    have c28b1 : (a0 != 244) = false := bne_eq_false_iff_eq.mpr c28
                    clear c28
                    obtain rfl := Option.some.inj H
                    go_wp2
                    go_ret
                    exact ⟨by first | rfl | (simp; done) | (simp [*]; done), by repeat (first | exact Drawn0.refl _ | apply Drawn0.step)⟩
                  · rw [if_neg c28] at H
                    have c28b0 : (a0 == 244) = false := beq_eq_false_iff_ne.mpr c28
                    have c28b1 : (a0 != 244) = true := bne_iff_ne.mpr c28
                    obtain rfl := Option.some.inj H
                    go_wp2
                    go_ret
                    exact ⟨by first | rfl | (simp; done) | (simp [*]; done), by repeat (first | exact Drawn0.refl _ | apply Drawn0.step)⟩
              · rw [if_neg c26] at H
                have c26b0 : (a0 == 240) = false := beq_eq_false_iff_ne.mpr c26
                have c26b1 : (a0 != 240) = true := bne_iff_ne.mpr c26
                by_cases c29 : a0 = 244
                · rw [if_pos c29] at H
                  have c29b0 : (a0 == 244) = true := beq_iff_eq.mpr c29
                  have c29b1 : (a0 != 244) = false := bne_eq_false_iff_eq.mpr c29
                  clear c29
                  obtain rfl := Option.some.inj H
                  go_wp2
                  go_ret
                  exact ⟨by first | rfl | (simp; done) | (simp [*]; done), by repeat (first | exact Drawn0.refl _ | apply Drawn0.step)⟩
                · rw [if_neg c29] at H
                  have c29b0 : (a0 == 244) = false := beq_eq_false_iff_ne.mpr c29
                  have c29b1 : (a0 != 244) = true := bne_iff_ne.mpr c29
                  obtain rfl := Option.some.inj H
                  go_wp2
                  go_ret
                  exact ⟨by first | rfl | (simp; done) | (simp [*]; done), by repeat (first | exact Drawn0.refl _ | apply Drawn0.step)⟩

/-! ### gatepostref02_begin: function 18 -/
def gatepostref02_begin.l0 : Nat → ByteArray → Int → Int → Int → Option (Int)
  | 0, _, _, _, _ => none
  | k + 1, x0, x1, x5, x6 => if x6 > 0 then (if x6 < x5 then (if (wrap64 (x1 + x6)) < (x0.size : Int) then (if 0 ≤ x1 then (if x1 < (x0.size : Int) then (if 0 ≤ (wrap64 (x1 + x6)) then ((gatepostref02_follows.f k (bt x0 x1) (bt x0 (wrap64 (x1 + x6))) x6).bind fun t164 => (if t164 = true then (gatepostref02_begin.l0 k x0 x1 x5 (wrap64 (x6 + 1))) else (some x6))) else (none)) else (none)) else (none)) else (some x6)) else (some x6)) else (some x6)
def gatepostref02_begin.f (k : Nat) (a0 : ByteArray) (a1 : Int) : Option (Int) := if 0 ≤ a1 then (if a1 < (a0.size : Int) then ((gatepostref02_many.f k (bt a0 a1)).bind fun t163 => (gatepostref02_begin.l0 k a0 a1 t163 (mn t163 1))) else (none)) else (none)
theorem gatepostref02_begin.mono_l : ∀ k, (∀ y0 y1 y2 y3, LeO (gatepostref02_begin.l0 k y0 y1 y2 y3) (gatepostref02_begin.l0 (k + 1) y0 y1 y2 y3))
  | 0 => fun _ _ _ _ r h => by simp [gatepostref02_begin.l0] at h
  | k + 1 => by
    have ih0 := gatepostref02_begin.mono_l k
    · intro y0 y1 y2 y3
      unfold gatepostref02_begin.l0
      repeat' first
      | (with_reducible exact ih0 _ _ _ _)
      | (with_reducible exact gatepostref02_follows.mono _ _ _ _)
      | (with_reducible exact gatepostref02_many.mono _ _)
      | (with_reducible exact LeO.refl _)
      | (with_reducible exact LeO.none _)
      | (with_reducible refine LeO.ite ?_ ?_)
      | (with_reducible refine LeO.bind ?_ (fun _ => ?_))
      | exact ih0 _ _ _ _
      | exact gatepostref02_follows.mono _ _ _ _
      | exact gatepostref02_many.mono _ _
      | exact LeO.none _
      | refine LeO.ite ?_ ?_
      | refine LeO.bind ?_ (fun _ => ?_)
theorem gatepostref02_begin.mono : ∀ a0 a1 k, LeO (gatepostref02_begin.f k a0 a1) (gatepostref02_begin.f (k + 1) a0 a1) := by
  intro a0 a1 k
  have ih0 := gatepostref02_begin.mono_l k
  unfold gatepostref02_begin.f
  repeat' first
      | (with_reducible exact ih0 _ _ _ _)
      | (with_reducible exact gatepostref02_follows.mono _ _ _ _)
      | (with_reducible exact gatepostref02_many.mono _ _)
      | (with_reducible exact LeO.refl _)
      | (with_reducible exact LeO.none _)
      | (with_reducible refine LeO.ite ?_ ?_)
      | (with_reducible refine LeO.bind ?_ (fun _ => ?_))
      | exact ih0 _ _ _ _
      | exact gatepostref02_follows.mono _ _ _ _
      | exact gatepostref02_many.mono _ _
      | exact LeO.none _
      | refine LeO.ite ?_ ?_
      | refine LeO.bind ?_ (fun _ => ?_)
set_option maxHeartbeats 8000000 in
set_option maxRecDepth 100000 in
theorem gatepostref02_begin.calls (k : Nat) (a0 : ByteArray) (a1 : Int) (r : Int) (w : World) (h : gatepostref02_begin.f k a0 a1 = some r) :
    Calls Try.prog 18 #[.string a0, .int .i64 a1] w fun e w' => e = .returned (.int .i64 r) ∧ Below w.heap.size w w' := by
  have HB := Aside0.mk (Below.refl w.heap.size w)
  have H : (if 0 ≤ a1 then (if a1 < (a0.size : Int) then ((gatepostref02_many.f k (bt a0 a1)).bind fun t163 => (gatepostref02_begin.l0 k a0 a1 t163 (mn t163 1))) else (none)) else (none)) = some r := h
  clear h
  by_cases c3 : 0 ≤ a1
  · rw [if_pos c3] at H
    have c3b0 : decide (0 ≤ a1) = true := decide_eq_true c3
    clear c3
    by_cases c4 : a1 < (a0.size : Int)
    · rw [if_pos c4] at H
      have c4b0 : decide (a1 < (a0.size : Int)) = true := decide_eq_true c4
      clear c4
      replace H := Option.bind_eq_some_iff.mp H
      obtain ⟨t163, A60, H⟩ := H
      replace H : (gatepostref02_begin.l0 k a0 a1 t163 (mn t163 1)) = some r := H
      have A6 := Aside0.mk A60
      clear A60
      obtain ⟨ji7, hji7⟩ : ∃ j_ : Int, (mn t163 1) = j_ := ⟨_, rfl⟩
      replace H : (gatepostref02_begin.l0 k a0 a1 t163 ji7) = some r := by first | (rw [hji7] at H; exact H) | (simp only [hji7] at H ⊢; exact H)
      (try rw [hji7] at A6)
      (try (have hji7h : ji7 ≤ 1 := by (rw [← hji7]; unfold mn; (repeat' split) <;> omega)))
      (try (have hji7g : ji7 ≤ 64 := by omega))
      have hji7_ : (if 1 < t163 then 1 else t163) = ji7 := hji7
      have H' := Aside0.mk H
      clear H
      have p5 : 0 ≤ (a1 : Int) := of_decide_eq_true (by first | (with_reducible assumption) | assumption)
      have q5 : a1 < (a0.size : Int) := of_decide_eq_true (by first | (with_reducible assumption) | assumption)
      have hx5 := bt_at a0 a1
      replace p5 := eq_true p5
      replace q5 := eq_true q5
      go_enter Try.func18, Try.ntmps18
      go_wp2_with (first | (go_at_call 19; (with_reducible refine (gatepostref02_many.calls k (bt a0 a1) t163 _ A6.out).mono ?_); rintro e w' ⟨rfl, ⟨nd, rfl⟩⟩; (try first | exact ⟨rfl, _, World.drewN_drewN _ _ _⟩ | exact ⟨rfl, _, Eq.trans (World.drewN_drewN _ _ _) (congrArg (World.drewN _) (Nat.add_assoc _ _ _))⟩)))
      repeat (go_quiet (first | (go_at_call 19; (with_reducible refine (gatepostref02_many.calls k (bt a0 a1) t163 _ A6.out).mono ?_); rintro e w' ⟨rfl, ⟨nd, rfl⟩⟩; (try first | exact ⟨rfl, _, World.drewN_drewN _ _ _⟩ | exact ⟨rfl, _, Eq.trans (World.drewN_drewN _ _ _) (congrArg (World.drewN _) (Nat.add_assoc _ _ _))⟩))); try go_wp2_with (first | (go_at_call 19; (with_reducible refine (gatepostref02_many.calls k (bt a0 a1) t163 _ A6.out).mono ?_); rintro e w' ⟨rfl, ⟨nd, rfl⟩⟩; (try first | exact ⟨rfl, _, World.drewN_drewN _ _ _⟩ | exact ⟨rfl, _, Eq.trans (World.drewN_drewN _ _ _) (congrArg (World.drewN _) (Nat.add_assoc _ _ _))⟩))))
      go_loopg [6] k (fun kq v6 w' => ∃ (x6_1 : Int), v6 = .int .i64 x6_1 ∧ Aside0 (gatepostref02_begin.l0 kq a0 a1 t163 x6_1 = some r) ∧ Aside0 (kq ≤ k) ∧ Aside0 (Below w.heap.size w w'))
      case atStart => exact ⟨(ji7), (by first | rfl | (simp; done) | (simp only [← hji7] <;> (first | rfl | simp)) | (simp [*]; done)), H', ⟨Nat.le_refl _⟩, ⟨by repeat (first | (with_reducible first | exact HB.out | apply below_alloc | apply pw_below_drewN | apply below_drew1) | exact HB.out)⟩⟩
      case round =>
        clear H'
        try clear c1
        try clear p2
        try clear c3
        try clear c3b0
        try clear c4
        try clear c4b0
        try clear p5
        try clear q5
        try clear hx5
        try clear p5
        try clear q5
        obtain ⟨x6_1, rfl, HA, HK1, HB⟩ := hrel
        cases gk with
        | zero => exact absurd HA.out (by simp [gatepostref02_begin.l0])
        | succ k1 =>
          have H := HA.out
          clear HA
          simp only [gatepostref02_begin.l0] at H
          by_cases c8 : x6_1 > 0
          · rw [if_pos c8] at H
            have c8b0 : decide (0 < x6_1) = true := decide_eq_true c8
            clear c8
            by_cases c9 : x6_1 < t163
            · rw [if_pos c9] at H
              have c9b0 : decide (x6_1 < t163) = true := decide_eq_true c9
              clear c9
              by_cases c10 : (wrap64 (a1 + x6_1)) < (a0.size : Int)
              · rw [if_pos c10] at H
                have c10b0 : decide ((wrap64 (a1 + x6_1)) < (a0.size : Int)) = true := decide_eq_true c10
                clear c10
                by_cases c11 : 0 ≤ a1
                · rw [if_pos c11] at H
                  have c11b0 : decide (0 ≤ a1) = true := decide_eq_true c11
                  clear c11
                  by_cases c12 : a1 < (a0.size : Int)
                  · rw [if_pos c12] at H
                    have c12b0 : decide (a1 < (a0.size : Int)) = true := decide_eq_true c12
                    clear c12
                    obtain ⟨ji14, hji14⟩ : ∃ j_ : Int, (wrap64 (a1 + x6_1)) = j_ := ⟨_, rfl⟩
                    replace H : (if 0 ≤ (ji14) then ((gatepostref02_follows.f k1 (bt a0 a1) (bt a0 (ji14)) x6_1).bind fun t164 => (if t164 = true then (gatepostref02_begin.l0 k1 a0 a1 t163 (wrap64 (x6_1 + 1))) else (some x6_1))) else (none)) = some r := by first | (rw [hji14] at H; exact H) | (simp only [hji14] at H ⊢; exact H)
                    (try rw [hji14] at c10b0)
                    have hji14w : (IntKind.i64.wrap (a1 + x6_1)) = ji14 := (i64_w _).trans hji14
                    by_cases c15 : 0 ≤ (ji14)
                    · rw [if_pos c15] at H
                      have c15b0 : decide (0 ≤ (ji14)) = true := decide_eq_true c15
                      clear c15
                      replace H := Option.bind_eq_some_iff.mp H
                      obtain ⟨t164, A170, H⟩ := H
                      replace H : (if t164 = true then (gatepostref02_begin.l0 k1 a0 a1 t163 (wrap64 (x6_1 + 1))) else (some x6_1)) = some r := H
                      have A17 := Aside0.mk A170
                      clear A170
                      by_cases c18 : t164 = true
                      · subst c18
                        have H1 : (gatepostref02_begin.l0 k1 a0 a1 t163 (wrap64 (x6_1 + 1))) = some r := by rw [if_pos rfl] at H; exact H
                        clear H
                        have H := H1
                        clear H1
                        have H' := Aside0.mk H
                        clear H
                        have p13 : 0 ≤ (a1 : Int) := of_decide_eq_true (by first | (with_reducible assumption) | assumption)
                        have q13 : a1 < (a0.size : Int) := of_decide_eq_true (by first | (with_reducible assumption) | assumption)
                        have hx13 := bt_at a0 a1
                        replace p13 := eq_true p13
                        replace q13 := eq_true q13
                        have p16 : 0 ≤ ((ji14) : Int) := of_decide_eq_true (by first | (with_reducible assumption) | assumption)
                        have q16 : (ji14) < (a0.size : Int) := of_decide_eq_true (by first | (with_reducible assumption) | assumption)
                        have hx16 := bt_at a0 (ji14)
                        replace p16 := eq_true p16
                        replace q16 := eq_true q16
                        go_wp2_with (first | (go_at_call 25; (with_reducible refine (gatepostref02_follows.calls k1 (bt a0 a1) (bt a0 (ji14)) x6_1 true _ A17.out).mono ?_); rintro e w' ⟨rfl, ⟨nd, rfl⟩⟩; (try first | exact ⟨rfl, _, World.drewN_drewN _ _ _⟩ | exact ⟨rfl, _, Eq.trans (World.drewN_drewN _ _ _) (congrArg (World.drewN _) (Nat.add_assoc _ _ _))⟩)))
                        repeat (go_quiet (first | (go_at_call 25; (with_reducible refine (gatepostref02_follows.calls k1 (bt a0 a1) (bt a0 (ji14)) x6_1 true _ A17.out).mono ?_); rintro e w' ⟨rfl, ⟨nd, rfl⟩⟩; (try first | exact ⟨rfl, _, World.drewN_drewN _ _ _⟩ | exact ⟨rfl, _, Eq.trans (World.drewN_drewN _ _ _) (congrArg (World.drewN _) (Nat.add_assoc _ _ _))⟩))); try go_wp2_with (first | (go_at_call 25; (with_reducible refine (gatepostref02_follows.calls k1 (bt a0 a1) (bt a0 (ji14)) x6_1 true _ A17.out).mono ?_); rintro e w' ⟨rfl, ⟨nd, rfl⟩⟩; (try first | exact ⟨rfl, _, World.drewN_drewN _ _ _⟩ | exact ⟨rfl, _, Eq.trans (World.drewN_drewN _ _ _) (congrArg (World.drewN _) (Nat.add_assoc _ _ _))⟩))))
                        go_roundg k1
                        case measure => have := HK1.out; omega
                        case rel => exact ⟨(wrap64 (x6_1 + 1)), (by first | rfl | (simp; done) | (simp [*]; done)), H', ⟨by have := HK1.out; omega⟩, ⟨by repeat (first | (with_reducible first | exact HB.out | apply below_alloc | apply pw_below_drewN | apply below_drew1) | exact HB.out)⟩⟩
                      · replace c18 := Bool.eq_false_iff.mpr c18
                        subst c18
                        have H1 : (some x6_1) = some r := by rw [if_neg (show ¬ (false = true) by decide)] at H; exact H
                        clear H
                        have H := H1
                        clear H1
                        obtain rfl := Option.some.inj H
                        have p13 : 0 ≤ (a1 : Int) := of_decide_eq_true (by first | (with_reducible assumption) | assumption)
                        have q13 : a1 < (a0.size : Int) := of_decide_eq_true (by first | (with_reducible assumption) | assumption)
                        have hx13 := bt_at a0 a1
                        replace p13 := eq_true p13
                        replace q13 := eq_true q13
                        have p16 : 0 ≤ ((ji14) : Int) := of_decide_eq_true (by first | (with_reducible assumption) | assumption)
                        have q16 : (ji14) < (a0.size : Int) := of_decide_eq_true (by first | (with_reducible assumption) | assumption)
                        have hx16 := bt_at a0 (ji14)
                        replace p16 := eq_true p16
                        replace q16 := eq_true q16
                        go_wp2_with (first | (go_at_call 25; (with_reducible refine (gatepostref02_follows.calls k1 (bt a0 a1) (bt a0 (ji14)) x6_1 false _ A17.out).mono ?_); rintro e w' ⟨rfl, ⟨nd, rfl⟩⟩; (try first | exact ⟨rfl, _, World.drewN_drewN _ _ _⟩ | exact ⟨rfl, _, Eq.trans (World.drewN_drewN _ _ _) (congrArg (World.drewN _) (Nat.add_assoc _ _ _))⟩)))
                        repeat (go_quiet (first | (go_at_call 25; (with_reducible refine (gatepostref02_follows.calls k1 (bt a0 a1) (bt a0 (ji14)) x6_1 false _ A17.out).mono ?_); rintro e w' ⟨rfl, ⟨nd, rfl⟩⟩; (try first | exact ⟨rfl, _, World.drewN_drewN _ _ _⟩ | exact ⟨rfl, _, Eq.trans (World.drewN_drewN _ _ _) (congrArg (World.drewN _) (Nat.add_assoc _ _ _))⟩))); try go_wp2_with (first | (go_at_call 25; (with_reducible refine (gatepostref02_follows.calls k1 (bt a0 a1) (bt a0 (ji14)) x6_1 false _ A17.out).mono ?_); rintro e w' ⟨rfl, ⟨nd, rfl⟩⟩; (try first | exact ⟨rfl, _, World.drewN_drewN _ _ _⟩ | exact ⟨rfl, _, Eq.trans (World.drewN_drewN _ _ _) (congrArg (World.drewN _) (Nat.add_assoc _ _ _))⟩))))
                        go_ret
                        exact ⟨by first | rfl | (simp [errW_none, errW_some] <;> rfl) | (simp only [← hji7, ← hji14]; first | rfl | (simp [errW_none, errW_some] <;> rfl)) | (simp [*, errW_none, errW_some] <;> rfl), by repeat (first | (with_reducible first | exact HB.out | apply below_alloc | apply pw_below_drewN | apply below_drew1) | exact HB.out)⟩
                    · rw [if_neg c15] at H
                      exact absurd H (by simp)
                  · rw [if_neg c12] at H
                    exact absurd H (by simp)
                · rw [if_neg c11] at H
                  exact absurd H (by simp)
              · rw [if_neg c10] at H
                have c10b0 : decide ((wrap64 (a1 + x6_1)) < (a0.size : Int)) = false := decide_eq_false c10
                clear c10
                obtain rfl := Option.some.inj H
                go_wp2
                repeat (go_quiet (fail); try go_wp2)
                go_ret
                exact ⟨by first | rfl | (simp [errW_none, errW_some] <;> rfl) | (simp only [← hji7]; first | rfl | (simp [errW_none, errW_some] <;> rfl)) | (simp [*, errW_none, errW_some] <;> rfl), by repeat (first | (with_reducible first | exact HB.out | apply below_alloc | apply pw_below_drewN | apply below_drew1) | exact HB.out)⟩
            · rw [if_neg c9] at H
              have c9b0 : decide (x6_1 < t163) = false := decide_eq_false c9
              clear c9
              obtain rfl := Option.some.inj H
              go_wp2
              repeat (go_quiet (fail); try go_wp2)
              go_ret
              exact ⟨by first | rfl | (simp [errW_none, errW_some] <;> rfl) | (simp only [← hji7]; first | rfl | (simp [errW_none, errW_some] <;> rfl)) | (simp [*, errW_none, errW_some] <;> rfl), by repeat (first | (with_reducible first | exact HB.out | apply below_alloc | apply pw_below_drewN | apply below_drew1) | exact HB.out)⟩
          · rw [if_neg c8] at H
            have c8b0 : decide (0 < x6_1) = false := decide_eq_false c8
            clear c8
            obtain rfl := Option.some.inj H
            go_wp2
            repeat (go_quiet (fail); try go_wp2)
            go_ret
            exact ⟨by first | rfl | (simp [errW_none, errW_some] <;> rfl) | (simp only [← hji7]; first | rfl | (simp [errW_none, errW_some] <;> rfl)) | (simp [*, errW_none, errW_some] <;> rfl), by repeat (first | (with_reducible first | exact HB.out | apply below_alloc | apply pw_below_drewN | apply below_drew1) | exact HB.out)⟩
    · rw [if_neg c4] at H
      exact absurd H (by simp)
  · rw [if_neg c3] at H
    exact absurd H (by simp)

end Go.Proofs.Ytlbceljgmkojeaa.PUtf
