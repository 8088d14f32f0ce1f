/- Proved here: that functions of the program come to what plain Lean functions say, and (where it stands) the row of a law. No condition beyond that of the rows. Laid by a program of this session (wip/printgiven.py) out of the print of the translation. -/
import Derived.Test.YtglafngeeggeeaaPSchx0
namespace Go.Proofs.Ytglafngeeggeeaa.PSch
open Go.RowKit Go.Proofs.YtglafngeeggeeaaW.PrintWords Go.Proofs.YtglafngeeggeeaaW.PrintLast Go.Proofs.YtglafngeeggeeaaW.PrintMore
attribute [local go_sem] max2_int min2_int max_two min_two max_three min_three max_four min_four   -- for this text's walks alone
set_option linter.unusedVariables false
set_option linter.unusedSimpArgs false

/-! ### gatepostlaw22_same: function 10 -/
def gatepostlaw22_same.l0 : Nat → List (S37) → List (S41) → Int → Option (Bool)
  | 0, _, _, _ => none
  | k + 1, x0, x1, x5 => if x5 < (x0.length : Int) then (if 0 ≤ x5 then (if x5 < (x1.length : Int) then (if ((rd_T37 x0 x5).f0) = ((rd_T41 x1 x5).f0) then (if ((rd_T37 x0 x5).f1) = ((rd_T41 x1 x5).f1) then (gatepostlaw22_same.l0 k x0 x1 (wrap64 (x5 + 1))) else (some false)) else (some false)) else (none)) else (none)) else (some true)
def gatepostlaw22_same.f (k : Nat) (l0 : List (S37)) (l1 : List (S41)) : Option (Bool) := if (l0.length : Int) = (l1.length : Int) then (gatepostlaw22_same.l0 k l0 l1 0) else (some false)
theorem gatepostlaw22_same.mono_l : ∀ k, (∀ y0 y1 y2, LeO (gatepostlaw22_same.l0 k y0 y1 y2) (gatepostlaw22_same.l0 (k + 1) y0 y1 y2))
  | 0 => fun _ _ _ r h => by simp [gatepostlaw22_same.l0] at h
  | k + 1 => by
    have ih0 := gatepostlaw22_same.mono_l k
    · intro y0 y1 y2
      unfold gatepostlaw22_same.l0
      repeat' first
      | (with_reducible exact ih0 _ _ _)
      | (with_reducible exact LeO.refl _)
      | (with_reducible exact LeO.none _)
      | (with_reducible refine LeO.ite ?_ ?_)
      | (with_reducible refine LeO.bind ?_ (fun _ => ?_))
      | exact ih0 _ _ _
      | exact LeO.none _
      | refine LeO.ite ?_ ?_
      | refine LeO.bind ?_ (fun _ => ?_)
theorem gatepostlaw22_same.mono : ∀ a0 a1 k, LeO (gatepostlaw22_same.f k a0 a1) (gatepostlaw22_same.f (k + 1) a0 a1) := by
  intro a0 a1 k
  have ih0 := gatepostlaw22_same.mono_l k
  unfold gatepostlaw22_same.f
  repeat' first
      | (with_reducible exact ih0 _ _ _)
      | (with_reducible exact LeO.refl _)
      | (with_reducible exact LeO.none _)
      | (with_reducible refine LeO.ite ?_ ?_)
      | (with_reducible refine LeO.bind ?_ (fun _ => ?_))
      | exact ih0 _ _ _
      | exact LeO.none _
      | refine LeO.ite ?_ ?_
      | refine LeO.bind ?_ (fun _ => ?_)
set_option maxHeartbeats 8000000 in
set_option maxRecDepth 100000 in
theorem gatepostlaw22_same.calls (k : Nat) (A0 : Option Addr) (c0 : Nat) (l0 : List (S37)) (A1 : Option Addr) (c1 : Nat) (l1 : List (S41)) (r : Bool) (w : World) (hr0 : Kd.C k37 w A0 l0.length l0) (hc0 : l0.length ≤ c0) (hr1 : Kd.C k41 w A1 l1.length l1) (hc1 : l1.length ≤ c1) (h : gatepostlaw22_same.f k l0 l1 = some r) :
    Calls Try.prog 10 #[.slice A0 l0.length c0, .slice A1 l1.length c1] w fun e w' => e = .returned (.bool r) ∧ Drawn0 w w' := by
  have HR0 := Aside0.mk hr0
  have HC0 := Aside0.mk hc0
  clear hr0 hc0
  have HR1 := Aside0.mk hr1
  have HC1 := Aside0.mk hc1
  clear hr1 hc1
  have H : (if (l0.length : Int) = (l1.length : Int) then (gatepostlaw22_same.l0 k l0 l1 0) else (some false)) = some r := h
  clear h
  by_cases c3 : (l0.length : Int) = (l1.length : Int)
  · rw [if_pos c3] at H
    have c3b0 : ((l0.length : Int) == (l1.length : Int)) = true := beq_iff_eq.mpr c3
    have c3b1 : ((l0.length : Int) != (l1.length : Int)) = false := bne_eq_false_iff_eq.mpr c3
    have c3b2 : (l0.length == l1.length) = true := by first | simpa using c3 | (simp at c3 ⊢; omega)
    clear c3
    have H' := Aside0.mk H
    clear H
    go_enter Try.func10, Try.ntmps10
    go_wp2
    repeat (go_quiet (fail); try go_wp2)
    go_loopg [5] k (fun kq v5 w' => ∃ (x5_1 : Int), v5 = .int .i64 x5_1 ∧ Aside0 (gatepostlaw22_same.l0 kq l0 l1 x5_1 = some r) ∧ Aside0 (kq ≤ k) ∧ Drawn0 w w')
    case atStart => exact ⟨(0), (by first | rfl | (simp; done) | (simp [*]; done)), H', ⟨Nat.le_refl _⟩, by repeat (first | exact Drawn0.refl _ | apply Drawn0.step)⟩
    case round =>
      clear H'
      try clear c1
      try clear p2
      try clear c3
      try clear c3b0
      try clear c3b1
      try clear c3b2
      obtain ⟨x5_1, rfl, HA, HK1, ⟨m1, rfl⟩⟩ := hrel
      cases gk with
      | zero => exact absurd HA.out (by simp [gatepostlaw22_same.l0])
      | succ k1 =>
        have H := HA.out
        clear HA
        simp only [gatepostlaw22_same.l0] at H
        by_cases c4 : x5_1 < (l0.length : Int)
        · rw [if_pos c4] at H
          have c4b0 : decide (x5_1 < (l0.length : Int)) = true := decide_eq_true c4
          clear c4
          by_cases c5 : 0 ≤ x5_1
          · rw [if_pos c5] at H
            have c5b0 : decide (0 ≤ x5_1) = true := decide_eq_true c5
            clear c5
            by_cases c6 : x5_1 < (l1.length : Int)
            · rw [if_pos c6] at H
              have c6b0 : decide (x5_1 < (l1.length : Int)) = true := decide_eq_true c6
              clear c6
              by_cases c7 : ((rd_T37 l0 x5_1).f0) = ((rd_T41 l1 x5_1).f0)
              · rw [if_pos c7] at H
                have c7b0 : (((rd_T37 l0 x5_1).f0) == ((rd_T41 l1 x5_1).f0)) = true := beq_iff_eq.mpr c7
                have c7b1 : (((rd_T37 l0 x5_1).f0) != ((rd_T41 l1 x5_1).f0)) = false := bne_eq_false_iff_eq.mpr c7
                clear c7
                by_cases c8 : ((rd_T37 l0 x5_1).f1) = ((rd_T41 l1 x5_1).f1)
                · rw [if_pos c8] at H
                  have c8b0 : (((rd_T37 l0 x5_1).f1) == ((rd_T41 l1 x5_1).f1)) = true := beq_iff_eq.mpr c8
                  have c8b1 : (((rd_T37 l0 x5_1).f1) != ((rd_T41 l1 x5_1).f1)) = false := bne_eq_false_iff_eq.mpr c8
                  clear c8
                  have H' := Aside0.mk H
                  clear H
                  have p132 : 0 ≤ (x5_1 : Int) := of_decide_eq_true (by first | (with_reducible assumption) | assumption)
                  have q132 : x5_1 < (l0.length : Int) := of_decide_eq_true (by first | (with_reducible assumption) | assumption)
                  obtain ⟨ad132, e132, hx132_0, hx132_1⟩ := at_T37 HR0.out x5_1 p132 q132
                  cases e132
                  replace p132 := eq_true p132
                  replace q132 := eq_true q132
                  have p133 : 0 ≤ (x5_1 : Int) := of_decide_eq_true (by first | (with_reducible assumption) | assumption)
                  have q133 : x5_1 < (l1.length : Int) := of_decide_eq_true (by first | (with_reducible assumption) | assumption)
                  obtain ⟨ad133, e133, hx133_0, hx133_1⟩ := at_T41 HR1.out x5_1 p133 q133
                  cases e133
                  replace p133 := eq_true p133
                  replace q133 := eq_true q133
                  have p134 : 0 ≤ (x5_1 : Int) := of_decide_eq_true (by first | (with_reducible assumption) | assumption)
                  have q134 : x5_1 < (l0.length : Int) := of_decide_eq_true (by first | (with_reducible assumption) | assumption)
                  obtain ⟨ad134, e134, hx134_0, hx134_1⟩ := at_T37 HR0.out x5_1 p134 q134
                  obtain rfl : ad132 = ad134 := (by injection e134)
                  replace p134 := eq_true p134
                  replace q134 := eq_true q134
                  have p135 : 0 ≤ (x5_1 : Int) := of_decide_eq_true (by first | (with_reducible assumption) | assumption)
                  have q135 : x5_1 < (l1.length : Int) := of_decide_eq_true (by first | (with_reducible assumption) | assumption)
                  obtain ⟨ad135, e135, hx135_0, hx135_1⟩ := at_T41 HR1.out x5_1 p135 q135
                  obtain rfl : ad133 = ad135 := (by injection e135)
                  replace p135 := eq_true p135
                  replace q135 := eq_true q135
                  go_wp2
                  repeat (go_quiet (fail); try go_wp2)
                  go_roundg k1
                  case measure => have := HK1.out; omega
                  case rel => exact ⟨(wrap64 (x5_1 + 1)), (by first | rfl | (simp; done) | (simp [*]; done)), H', ⟨by have := HK1.out; omega⟩, by repeat (first | exact Drawn0.refl _ | apply Drawn0.step)⟩
                · rw [if_neg c8] at H
                  have c8b0 : (((rd_T37 l0 x5_1).f1) == ((rd_T41 l1 x5_1).f1)) = false := beq_eq_false_iff_ne.mpr c8
                  have c8b1 : (((rd_T37 l0 x5_1).f1) != ((rd_T41 l1 x5_1).f1)) = true := bne_iff_ne.mpr c8
                  obtain rfl := Option.some.inj H
                  have p132 : 0 ≤ (x5_1 : Int) := of_decide_eq_true (by first | (with_reducible assumption) | assumption)
                  have q132 : x5_1 < (l0.length : Int) := of_decide_eq_true (by first | (with_reducible assumption) | assumption)
                  obtain ⟨ad132, e132, hx132_0, hx132_1⟩ := at_T37 HR0.out x5_1 p132 q132
                  cases e132
                  replace p132 := eq_true p132
                  replace q132 := eq_true q132
                  have p133 : 0 ≤ (x5_1 : Int) := of_decide_eq_true (by first | (with_reducible assumption) | assumption)
                  have q133 : x5_1 < (l1.length : Int) := of_decide_eq_true (by first | (with_reducible assumption) | assumption)
                  obtain ⟨ad133, e133, hx133_0, hx133_1⟩ := at_T41 HR1.out x5_1 p133 q133
                  cases e133
                  replace p133 := eq_true p133
                  replace q133 := eq_true q133
                  have p134 : 0 ≤ (x5_1 : Int) := of_decide_eq_true (by first | (with_reducible assumption) | assumption)
                  have q134 : x5_1 < (l0.length : Int) := of_decide_eq_true (by first | (with_reducible assumption) | assumption)
                  obtain ⟨ad134, e134, hx134_0, hx134_1⟩ := at_T37 HR0.out x5_1 p134 q134
                  obtain rfl : ad132 = ad134 := (by injection e134)
                  replace p134 := eq_true p134
                  replace q134 := eq_true q134
                  have p135 : 0 ≤ (x5_1 : Int) := of_decide_eq_true (by first | (with_reducible assumption) | assumption)
                  have q135 : x5_1 < (l1.length : Int) := of_decide_eq_true (by first | (with_reducible assumption) | assumption)
                  obtain ⟨ad135, e135, hx135_0, hx135_1⟩ := at_T41 HR1.out x5_1 p135 q135
                  obtain rfl : ad133 = ad135 := (by injection e135)
                  replace p135 := eq_true p135
                  replace q135 := eq_true q135
                  go_wp2
                  repeat (go_quiet (fail); try go_wp2)
                  go_ret
                  exact ⟨by first | rfl | (simp; done) | (simp [*]; done), by repeat (first | exact Drawn0.refl _ | apply Drawn0.step)⟩
              · rw [if_neg c7] at H
                have c7b0 : (((rd_T37 l0 x5_1).f0) == ((rd_T41 l1 x5_1).f0)) = false := beq_eq_false_iff_ne.mpr c7
                have c7b1 : (((rd_T37 l0 x5_1).f0) != ((rd_T41 l1 x5_1).f0)) = true := bne_iff_ne.mpr c7
                obtain rfl := Option.some.inj H
                have p132 : 0 ≤ (x5_1 : Int) := of_decide_eq_true (by first | (with_reducible assumption) | assumption)
                have q132 : x5_1 < (l0.length : Int) := of_decide_eq_true (by first | (with_reducible assumption) | assumption)
                obtain ⟨ad132, e132, hx132_0, hx132_1⟩ := at_T37 HR0.out x5_1 p132 q132
                cases e132
                replace p132 := eq_true p132
                replace q132 := eq_true q132
                have p133 : 0 ≤ (x5_1 : Int) := of_decide_eq_true (by first | (with_reducible assumption) | assumption)
                have q133 : x5_1 < (l1.length : Int) := of_decide_eq_true (by first | (with_reducible assumption) | assumption)
                obtain ⟨ad133, e133, hx133_0, hx133_1⟩ := at_T41 HR1.out x5_1 p133 q133
                cases e133
                replace p133 := eq_true p133
                replace q133 := eq_true q133
                go_wp2
                repeat (go_quiet (fail); try go_wp2)
                go_ret
                exact ⟨by first | rfl | (simp; done) | (simp [*]; done), by repeat (first | exact Drawn0.refl _ | apply Drawn0.step)⟩
            · rw [if_neg c6] at H
              exact absurd H (by simp)
          · rw [if_neg c5] at H
            exact absurd H (by simp)
        · rw [if_neg c4] at H
          have c4b0 : decide (x5_1 < (l0.length : Int)) = false := decide_eq_false c4
          clear c4
          obtain rfl := Option.some.inj H
          go_wp2
          repeat (go_quiet (fail); try go_wp2)
          go_ret
          exact ⟨by first | rfl | (simp; done) | (simp [*]; done), by repeat (first | exact Drawn0.refl _ | apply Drawn0.step)⟩
  · rw [if_neg c3] at H
    have c3b0 : ((l0.length : Int) == (l1.length : Int)) = false := beq_eq_false_iff_ne.mpr c3
    have c3b1 : ((l0.length : Int) != (l1.length : Int)) = true := bne_iff_ne.mpr c3
    have c3b2 : (l0.length == l1.length) = false := by first | simpa using c3 | (simp at c3 ⊢; omega)
    obtain rfl := Option.some.inj H
    go_enter Try.func10, Try.ntmps10
    go_wp2
    repeat (go_quiet (fail); try go_wp2)
    go_ret
    exact ⟨by first | rfl | (simp; done) | (simp [*]; done), by repeat (first | exact Drawn0.refl _ | apply Drawn0.step)⟩

/-! ### gatepostref22_at: function 21 -/
def gatepostref22_at.l0 : Nat → List (S41) → Int → Int → Int → Option (Int)
  | 0, _, _, _, _ => none
  | k + 1, x0, x1, x5, x6 => if x6 < (x0.length : Int) then (if 0 ≤ x6 then (if ((rd_T41 x0 x6).f0) = x1 then (gatepostref22_at.l0 k x0 x1 (wrap64 (x5 + 1)) (wrap64 (x6 + 1))) else (gatepostref22_at.l0 k x0 x1 x5 (wrap64 (x6 + 1)))) else (none)) else (some x5)
def gatepostref22_at.f (k : Nat) (l0 : List (S41)) (a1 : Int) : Option (Int) := gatepostref22_at.l0 k l0 a1 0 0
theorem gatepostref22_at.mono_l : ∀ k, (∀ y0 y1 y2 y3, LeO (gatepostref22_at.l0 k y0 y1 y2 y3) (gatepostref22_at.l0 (k + 1) y0 y1 y2 y3))
  | 0 => fun _ _ _ _ r h => by simp [gatepostref22_at.l0] at h
  | k + 1 => by
    have ih0 := gatepostref22_at.mono_l k
    · intro y0 y1 y2 y3
      unfold gatepostref22_at.l0
      repeat' first
      | (with_reducible exact ih0 _ _ _ _)
      | (with_reducible exact LeO.refl _)
      | (with_reducible exact LeO.none _)
      | (with_reducible refine LeO.ite ?_ ?_)
      | (with_reducible refine LeO.bind ?_ (fun _ => ?_))
      | exact ih0 _ _ _ _
      | exact LeO.none _
      | refine LeO.ite ?_ ?_
      | refine LeO.bind ?_ (fun _ => ?_)
theorem gatepostref22_at.mono : ∀ a0 a1 k, LeO (gatepostref22_at.f k a0 a1) (gatepostref22_at.f (k + 1) a0 a1) := by
  intro a0 a1 k
  have ih0 := gatepostref22_at.mono_l k
  unfold gatepostref22_at.f
  repeat' first
      | (with_reducible exact ih0 _ _ _ _)
      | (with_reducible exact LeO.refl _)
      | (with_reducible exact LeO.none _)
      | (with_reducible refine LeO.ite ?_ ?_)
      | (with_reducible refine LeO.bind ?_ (fun _ => ?_))
      | exact ih0 _ _ _ _
      | exact LeO.none _
      | refine LeO.ite ?_ ?_
      | refine LeO.bind ?_ (fun _ => ?_)
set_option maxHeartbeats 8000000 in
set_option maxRecDepth 100000 in
theorem gatepostref22_at.calls (k : Nat) (A0 : Option Addr) (c0 : Nat) (l0 : List (S41)) (a1 : Int) (r : Int) (w : World) (hr0 : Kd.C k41 w A0 l0.length l0) (hc0 : l0.length ≤ c0) (h : gatepostref22_at.f k l0 a1 = some r) :
    Calls Try.prog 21 #[.slice A0 l0.length c0, .int .i64 a1] w fun e w' => e = .returned (.int .i64 r) ∧ Drawn0 w w' := by
  have HR0 := Aside0.mk hr0
  have HC0 := Aside0.mk hc0
  clear hr0 hc0
  have H : (gatepostref22_at.l0 k l0 a1 0 0) = some r := h
  clear h
  have H' := Aside0.mk H
  clear H
  go_enter Try.func21, Try.ntmps21
  go_wp2
  go_loopg [5, 6] k (fun kq v5 v6 w' => ∃ (x5_1 : Int) (x6_1 : Int), v5 = .int .i64 x5_1 ∧ v6 = .int .i64 x6_1 ∧ Aside0 (gatepostref22_at.l0 kq l0 a1 x5_1 x6_1 = some r) ∧ Aside0 (kq ≤ k) ∧ Drawn0 w w')
  case atStart => exact ⟨(0), (0), (by first | rfl | (simp; done) | (simp [*]; done)), (by first | rfl | (simp; done) | (simp [*]; done)), H', ⟨Nat.le_refl _⟩, by repeat (first | exact Drawn0.refl _ | apply Drawn0.step)⟩
  case round =>
    clear H'
    try clear c2
    try clear p2
    obtain ⟨x5_1, x6_1, rfl, rfl, HA, HK1, ⟨m1, rfl⟩⟩ := hrel
    cases gk with
    | zero => exact absurd HA.out (by simp [gatepostref22_at.l0])
    | succ k1 =>
      have H := HA.out
      clear HA
      simp only [gatepostref22_at.l0] at H
      by_cases c3 : x6_1 < (l0.length : Int)
      · rw [if_pos c3] at H
        have c3b0 : decide (x6_1 < (l0.length : Int)) = true := decide_eq_true c3
        clear c3
        by_cases c4 : 0 ≤ x6_1
        · rw [if_pos c4] at H
          have c4b0 : decide (0 ≤ x6_1) = true := decide_eq_true c4
          clear c4
          by_cases c5 : ((rd_T41 l0 x6_1).f0) = a1
          · rw [if_pos c5] at H
            have c5b0 : (((rd_T41 l0 x6_1).f0) == a1) = true := beq_iff_eq.mpr c5
            have c5b1 : (((rd_T41 l0 x6_1).f0) != a1) = false := bne_eq_false_iff_eq.mpr c5
            clear c5
            have H' := Aside0.mk H
            clear H
            have p136 : 0 ≤ (x6_1 : Int) := of_decide_eq_true (by first | (with_reducible assumption) | assumption)
            have q136 : x6_1 < (l0.length : Int) := of_decide_eq_true (by first | (with_reducible assumption) | assumption)
            obtain ⟨ad136, e136, hx136_0, hx136_1⟩ := at_T41 HR0.out x6_1 p136 q136
            cases e136
            replace p136 := eq_true p136
            replace q136 := eq_true q136
            go_wp2
            go_roundg k1
            case measure => have := HK1.out; omega
            case rel => exact ⟨(wrap64 (x5_1 + 1)), (wrap64 (x6_1 + 1)), (by first | rfl | (simp; done) | (simp [*]; done)), (by first | rfl | (simp; done) | (simp [*]; done)), H', ⟨by have := HK1.out; omega⟩, by repeat (first | exact Drawn0.refl _ | apply Drawn0.step)⟩
          · rw [if_neg c5] at H
            have c5b0 : (((rd_T41 l0 x6_1).f0) == a1) = false := beq_eq_false_iff_ne.mpr c5
            have c5b1 : (((rd_T41 l0 x6_1).f0) != a1) = true := bne_iff_ne.mpr c5
            have H' := Aside0.mk H
            clear H
            have p136 : 0 ≤ (x6_1 : Int) := of_decide_eq_true (by first | (with_reducible assumption) | assumption)
            have q136 : x6_1 < (l0.length : Int) := of_decide_eq_true (by first | (with_reducible assumption) | assumption)
            obtain ⟨ad136, e136, hx136_0, hx136_1⟩ := at_T41 HR0.out x6_1 p136 q136
            cases e136
            replace p136 := eq_true p136
            replace q136 := eq_true q136
            go_wp2
            go_roundg k1
            case measure => have := HK1.out; omega
            case rel => exact ⟨(x5_1), (wrap64 (x6_1 + 1)), (by first | rfl | (simp; done) | (simp [*]; done)), (by first | rfl | (simp; done) | (simp [*]; done)), H', ⟨by have := HK1.out; omega⟩, by repeat (first | exact Drawn0.refl _ | apply Drawn0.step)⟩
        · rw [if_neg c4] at H
          exact absurd H (by simp)
      · rw [if_neg c3] at H
        have c3b0 : decide (x6_1 < (l0.length : Int)) = false := decide_eq_false c3
        clear c3
        obtain rfl := Option.some.inj H
        go_wp2
        go_ret
        exact ⟨by first | rfl | (simp; done) | (simp [*]; done), by repeat (first | exact Drawn0.refl _ | apply Drawn0.step)⟩

/-! ### gatepostref22_held: function 24 -/
def gatepostref22_held.l0 : Nat → List (List Int) → List (S41) → Int → Int → Int → Option (Int)
  | 0, _, _, _, _, _ => none
  | k + 1, x0, x1, x2, x7, x8 => if x8 < (x1.length : Int) then (if 0 ≤ x8 then (if 0 ≤ ((rd_T41 x1 x8).f0) then (if ((rd_T41 x1 x8).f0) < (x0.length : Int) then (if 0 ≤ ((rd_T41 x1 x8).f1) then (if ((rd_T41 x1 x8).f1) < ((rd_L1 x0 ((rd_T41 x1 x8).f0)).length : Int) then (if (rd (rd_L1 x0 ((rd_T41 x1 x8).f0)) ((rd_T41 x1 x8).f1)) = x2 then (if (rd (rd_L1 x0 ((rd_T41 x1 x8).f0)) ((rd_T41 x1 x8).f1)) < 0 then (if (rd (rd_L1 x0 ((rd_T41 x1 x8).f0)) ((rd_T41 x1 x8).f1)) = (wrap64 (-x2)) then (if ((rd_T41 x1 x8).f0) = ((rd_T41 x1 x8).f0) then (gatepostref22_held.l0 k x0 x1 x2 (-1) (wrap64 (x8 + 1))) else (gatepostref22_held.l0 k x0 x1 x2 ((rd_T41 x1 x8).f0) (wrap64 (x8 + 1)))) else (gatepostref22_held.l0 k x0 x1 x2 ((rd_T41 x1 x8).f0) (wrap64 (x8 + 1)))) else (gatepostref22_held.l0 k x0 x1 x2 ((rd_T41 x1 x8).f0) (wrap64 (x8 + 1)))) else (if (rd (rd_L1 x0 ((rd_T41 x1 x8).f0)) ((rd_T41 x1 x8).f1)) < 0 then (if (rd (rd_L1 x0 ((rd_T41 x1 x8).f0)) ((rd_T41 x1 x8).f1)) = (wrap64 (-x2)) then (if x7 = ((rd_T41 x1 x8).f0) then (gatepostref22_held.l0 k x0 x1 x2 (-1) (wrap64 (x8 + 1))) else (gatepostref22_held.l0 k x0 x1 x2 x7 (wrap64 (x8 + 1)))) else (gatepostref22_held.l0 k x0 x1 x2 x7 (wrap64 (x8 + 1)))) else (gatepostref22_held.l0 k x0 x1 x2 x7 (wrap64 (x8 + 1))))) else (none)) else (none)) else (none)) else (none)) else (none)) else (some x7)
def gatepostref22_held.f (k : Nat) (l0 : List (List Int)) (l1 : List (S41)) (a2 : Int) : Option (Int) := gatepostref22_held.l0 k l0 l1 a2 (-1) 0
theorem gatepostref22_held.mono_l : ∀ k, (∀ y0 y1 y2 y3 y4, LeO (gatepostref22_held.l0 k y0 y1 y2 y3 y4) (gatepostref22_held.l0 (k + 1) y0 y1 y2 y3 y4))
  | 0 => fun _ _ _ _ _ r h => by simp [gatepostref22_held.l0] at h
  | k + 1 => by
    have ih0 := gatepostref22_held.mono_l k
    · intro y0 y1 y2 y3 y4
      unfold gatepostref22_held.l0
      repeat' first
      | (with_reducible exact ih0 _ _ _ _ _)
      | (with_reducible exact LeO.refl _)
      | (with_reducible exact LeO.none _)
      | (with_reducible refine LeO.ite ?_ ?_)
      | (with_reducible refine LeO.bind ?_ (fun _ => ?_))
      | exact ih0 _ _ _ _ _
      | exact LeO.none _
      | refine LeO.ite ?_ ?_
      | refine LeO.bind ?_ (fun _ => ?_)
theorem gatepostref22_held.mono : ∀ a0 a1 a2 k, LeO (gatepostref22_held.f k a0 a1 a2) (gatepostref22_held.f (k + 1) a0 a1 a2) := by
  intro a0 a1 a2 k
  have ih0 := gatepostref22_held.mono_l k
  unfold gatepostref22_held.f
  repeat' first
      | (with_reducible exact ih0 _ _ _ _ _)
      | (with_reducible exact LeO.refl _)
      | (with_reducible exact LeO.none _)
      | (with_reducible refine LeO.ite ?_ ?_)
      | (with_reducible refine LeO.bind ?_ (fun _ => ?_))
      | exact ih0 _ _ _ _ _
      | exact LeO.none _
      | refine LeO.ite ?_ ?_
      | refine LeO.bind ?_ (fun _ => ?_)
set_option maxHeartbeats 8000000 in
set_option maxRecDepth 100000 in
theorem gatepostref22_held.calls (k : Nat) (A0 : Option Addr) (c0 : Nat) (l0 : List (List Int)) (A1 : Option Addr) (c1 : Nat) (l1 : List (S41)) (a2 : Int) (r : Int) (w : World) (hr0 : Kd.C (Kd.slice 3 (Kd.int .i64)) w A0 l0.length l0) (hc0 : l0.length ≤ c0) (hr1 : Kd.C k41 w A1 l1.length l1) (hc1 : l1.length ≤ c1) (h : gatepostref22_held.f k l0 l1 a2 = some r) :
    Calls Try.prog 24 #[.slice A0 l0.length c0, .slice A1 l1.length c1, .int .i64 a2] w fun e w' => e = .returned (.int .i64 r) ∧ Drawn0 w w' := by
  have HR0 := Aside0.mk hr0
  have HC0 := Aside0.mk hc0
  clear hr0 hc0
  have HR1 := Aside0.mk hr1
  have HC1 := Aside0.mk hc1
  clear hr1 hc1
  have H : (gatepostref22_held.l0 k l0 l1 a2 (-1) 0) = some r := h
  clear h
  have H' := Aside0.mk H
  clear H
  go_enter Try.func24, Try.ntmps24
  go_wp2
  repeat (go_quiet (fail); try go_wp2)
  go_loopg [7, 8] k (fun kq v7 v8 w' => ∃ (x7_1 : Int) (x8_1 : Int), v7 = .int .i64 x7_1 ∧ v8 = .int .i64 x8_1 ∧ Aside0 (gatepostref22_held.l0 kq l0 l1 a2 x7_1 x8_1 = some r) ∧ Aside0 (kq ≤ k) ∧ Drawn0 w w')
  case atStart => exact ⟨((-1)), (0), (by first | rfl | (simp; done) | (simp [*]; done)), (by first | rfl | (simp; done) | (simp [*]; done)), H', ⟨Nat.le_refl _⟩, by repeat (first | exact Drawn0.refl _ | apply Drawn0.step)⟩
  case round =>
    clear H'
    try clear c1
    try clear c2
    try clear p2
    obtain ⟨x7_1, x8_1, rfl, rfl, HA, HK1, ⟨m1, rfl⟩⟩ := hrel
    cases gk with
    | zero => exact absurd HA.out (by simp [gatepostref22_held.l0])
    | succ k1 =>
      have H := HA.out
      clear HA
      simp only [gatepostref22_held.l0] at H
      by_cases c4 : x8_1 < (l1.length : Int)
      · rw [if_pos c4] at H
        have c4b0 : decide (x8_1 < (l1.length : Int)) = true := decide_eq_true c4
        clear c4
        by_cases c5 : 0 ≤ x8_1
        · rw [if_pos c5] at H
          have c5b0 : decide (0 ≤ x8_1) = true := decide_eq_true c5
          clear c5
          by_cases c6 : 0 ≤ ((rd_T41 l1 x8_1).f0)
          · rw [if_pos c6] at H
            have c6b0 : decide (0 ≤ ((rd_T41 l1 x8_1).f0)) = true := decide_eq_true c6
            clear c6
            by_cases c7 : ((rd_T41 l1 x8_1).f0) < (l0.length : Int)
            · rw [if_pos c7] at H
              have c7b0 : decide (((rd_T41 l1 x8_1).f0) < (l0.length : Int)) = true := decide_eq_true c7
              clear c7
              by_cases c8 : 0 ≤ ((rd_T41 l1 x8_1).f1)
              · rw [if_pos c8] at H
                have c8b0 : decide (0 ≤ ((rd_T41 l1 x8_1).f1)) = true := decide_eq_true c8
                clear c8
                by_cases c9 : ((rd_T41 l1 x8_1).f1) < ((rd_L1 l0 ((rd_T41 l1 x8_1).f0)).length : Int)
                · rw [if_pos c9] at H
                  have c9b0 : decide (((rd_T41 l1 x8_1).f1) < ((rd_L1 l0 ((rd_T41 l1 x8_1).f0)).length : Int)) = true := decide_eq_true c9
                  clear c9
                  by_cases c10 : (rd (rd_L1 l0 ((rd_T41 l1 x8_1).f0)) ((rd_T41 l1 x8_1).f1)) = a2
                  · rw [if_pos c10] at H
                    have c10b0 : ((rd (rd_L1 l0 ((rd_T41 l1 x8_1).f0)) ((rd_T41 l1 x8_1).f1)) == a2) = true := beq_iff_eq.mpr c10
                    have c10b1 : ((rd (rd_L1 l0 ((rd_T41 l1 x8_1).f0)) ((rd_T41 l1 x8_1).f1)) != a2) = false := bne_eq_false_iff_eq.mpr c10
                    clear c10
                    by_cases c11 : (rd (rd_L1 l0 ((rd_T41 l1 x8_1).f0)) ((rd_T41 l1 x8_1).f1)) < 0
                    · rw [if_pos c11] at H
                      have c11b0 : decide ((rd (rd_L1 l0 ((rd_T41 l1 x8_1).f0)) ((rd_T41 l1 x8_1).f1)) < 0) = true := decide_eq_true c11
                      clear c11
                      by_cases c12 : (rd (rd_L1 l0 ((rd_T41 l1 x8_1).f0)) ((rd_T41 l1 x8_1).f1)) = (wrap64 (-a2))
                      · rw [if_pos c12] at H
                        have c12b0 : ((rd (rd_L1 l0 ((rd_T41 l1 x8_1).f0)) ((rd_T41 l1 x8_1).f1)) == (wrap64 (-a2))) = true := beq_iff_eq.mpr c12
                        have c12b1 : ((rd (rd_L1 l0 ((rd_T41 l1 x8_1).f0)) ((rd_T41 l1 x8_1).f1)) != (wrap64 (-a2))) = false := bne_eq_false_iff_eq.mpr c12
                        clear c12
                        by_cases c13 : ((rd_T41 l1 x8_1).f0) = ((rd_T41 l1 x8_1).f0)
                        · (first | rw [if_pos c13] at H | rw [if_pos True.intro] at H)
                          have c13b0 : (((rd_T41 l1 x8_1).f0) == ((rd_T41 l1 x8_1).f0)) = true := beq_iff_eq.mpr c13
                          have c13b1 : (((rd_T41 l1 x8_1).f0) != ((rd_T41 l1 x8_1).f0)) = false := bne_eq_false_iff_eq.mpr c13
                          clear c13
                          have H' := Aside0.mk H
                          clear H
                          have p137 : 0 ≤ (x8_1 : Int) := of_decide_eq_true (by first | (with_reducible assumption) | assumption)
                          have q137 : x8_1 < (l1.length : Int) := of_decide_eq_true (by first | (with_reducible assumption) | assumption)
                          obtain ⟨ad137, e137, hx137_0, hx137_1⟩ := at_T41 HR1.out x8_1 p137 q137
                          cases e137
                          replace p137 := eq_true p137
                          replace q137 := eq_true q137
                          have p138 : 0 ≤ (((rd_T41 l1 x8_1).f0) : Int) := of_decide_eq_true (by first | (with_reducible assumption) | assumption)
                          have q138 : ((rd_T41 l1 x8_1).f0) < (l0.length : Int) := of_decide_eq_true (by first | (with_reducible assumption) | assumption)
                          obtain ⟨ad138, A138_0, c138_0, e138, hx138_0, hl138_0, hi138_0⟩ := at_L1 HR0.out ((rd_T41 l1 x8_1).f0) p138 q138
                          cases e138
                          have HR138_0 := Aside0.mk hi138_0
                          have HC138_0 := Aside0.mk hl138_0
                          clear hi138_0 hl138_0
                          replace p138 := eq_true p138
                          replace q138 := eq_true q138
                          have p139 : 0 ≤ (x8_1 : Int) := of_decide_eq_true (by first | (with_reducible assumption) | assumption)
                          have q139 : x8_1 < (l1.length : Int) := of_decide_eq_true (by first | (with_reducible assumption) | assumption)
                          obtain ⟨ad139, e139, hx139_0, hx139_1⟩ := at_T41 HR1.out x8_1 p139 q139
                          obtain rfl : ad137 = ad139 := (by injection e139)
                          replace p139 := eq_true p139
                          replace q139 := eq_true q139
                          have p140 : 0 ≤ (((rd_T41 l1 x8_1).f1) : Int) := of_decide_eq_true (by first | (with_reducible assumption) | assumption)
                          have q140 : ((rd_T41 l1 x8_1).f1) < ((rd_L1 l0 ((rd_T41 l1 x8_1).f0)).length : Int) := of_decide_eq_true (by first | (with_reducible assumption) | assumption)
                          obtain ⟨ad140, e140, hx140_0⟩ := Kd.at_int HR138_0.out ((rd_T41 l1 x8_1).f1) p140 q140
                          cases e140
                          replace p140 := eq_true p140
                          replace q140 := eq_true q140
                          have p141 : 0 ≤ (x8_1 : Int) := of_decide_eq_true (by first | (with_reducible assumption) | assumption)
                          have q141 : x8_1 < (l1.length : Int) := of_decide_eq_true (by first | (with_reducible assumption) | assumption)
                          obtain ⟨ad141, e141, hx141_0, hx141_1⟩ := at_T41 HR1.out x8_1 p141 q141
                          obtain rfl : ad137 = ad141 := (by injection e141)
                          replace p141 := eq_true p141
                          replace q141 := eq_true q141
                          have p142 : 0 ≤ (x8_1 : Int) := of_decide_eq_true (by first | (with_reducible assumption) | assumption)
                          have q142 : x8_1 < (l1.length : Int) := of_decide_eq_true (by first | (with_reducible assumption) | assumption)
                          obtain ⟨ad142, e142, hx142_0, hx142_1⟩ := at_T41 HR1.out x8_1 p142 q142
                          obtain rfl : ad137 = ad142 := (by injection e142)
                          replace p142 := eq_true p142
                          replace q142 := eq_true q142
                          go_wp2
                          repeat (go_quiet (fail); try go_wp2)
                          go_roundg k1
                          case measure => have := HK1.out; omega
                          case rel => exact ⟨((-1)), (wrap64 (x8_1 + 1)), (by first | rfl | (simp; done) | (simp [*]; done)), (by first | rfl | (simp; done) | (simp [*]; done)), H', ⟨by have := HK1.out; omega⟩, by repeat (first | exact Drawn0.refl _ | apply Drawn0.step)⟩
                        · exact absurd rfl c13
                      · rw [if_neg c12] at H
                        have c12b0 : ((rd (rd_L1 l0 ((rd_T41 l1 x8_1).f0)) ((rd_T41 l1 x8_1).f1)) == (wrap64 (-a2))) = false := beq_eq_false_iff_ne.mpr c12
                        have c12b1 : ((rd (rd_L1 l0 ((rd_T41 l1 x8_1).f0)) ((rd_T41 l1 x8_1).f1)) != (wrap64 (-a2))) = true := bne_iff_ne.mpr c12
                        have H' := Aside0.mk H
                        clear H
                        have p137 : 0 ≤ (x8_1 : Int) := of_decide_eq_true (by first | (with_reducible assumption) | assumption)
                        have q137 : x8_1 < (l1.length : Int) := of_decide_eq_true (by first | (with_reducible assumption) | assumption)
                        obtain ⟨ad137, e137, hx137_0, hx137_1⟩ := at_T41 HR1.out x8_1 p137 q137
                        cases e137
                        replace p137 := eq_true p137
                        replace q137 := eq_true q137
                        have p138 : 0 ≤ (((rd_T41 l1 x8_1).f0) : Int) := of_decide_eq_true (by first | (with_reducible assumption) | assumption)
                        have q138 : ((rd_T41 l1 x8_1).f0) < (l0.length : Int) := of_decide_eq_true (by first | (with_reducible assumption) | assumption)
                        obtain ⟨ad138, A138_0, c138_0, e138, hx138_0, hl138_0, hi138_0⟩ := at_L1 HR0.out ((rd_T41 l1 x8_1).f0) p138 q138
                        cases e138
                        have HR138_0 := Aside0.mk hi138_0
                        have HC138_0 := Aside0.mk hl138_0
                        clear hi138_0 hl138_0
                        replace p138 := eq_true p138
                        replace q138 := eq_true q138
                        have p139 : 0 ≤ (x8_1 : Int) := of_decide_eq_true (by first | (with_reducible assumption) | assumption)
                        have q139 : x8_1 < (l1.length : Int) := of_decide_eq_true (by first | (with_reducible assumption) | assumption)
                        obtain ⟨ad139, e139, hx139_0, hx139_1⟩ := at_T41 HR1.out x8_1 p139 q139
                        obtain rfl : ad137 = ad139 := (by injection e139)
                        replace p139 := eq_true p139
                        replace q139 := eq_true q139
                        have p140 : 0 ≤ (((rd_T41 l1 x8_1).f1) : Int) := of_decide_eq_true (by first | (with_reducible assumption) | assumption)
                        have q140 : ((rd_T41 l1 x8_1).f1) < ((rd_L1 l0 ((rd_T41 l1 x8_1).f0)).length : Int) := of_decide_eq_true (by first | (with_reducible assumption) | assumption)
                        obtain ⟨ad140, e140, hx140_0⟩ := Kd.at_int HR138_0.out ((rd_T41 l1 x8_1).f1) p140 q140
                        cases e140
                        replace p140 := eq_true p140
                        replace q140 := eq_true q140
                        have p141 : 0 ≤ (x8_1 : Int) := of_decide_eq_true (by first | (with_reducible assumption) | assumption)
                        have q141 : x8_1 < (l1.length : Int) := of_decide_eq_true (by first | (with_reducible assumption) | assumption)
                        obtain ⟨ad141, e141, hx141_0, hx141_1⟩ := at_T41 HR1.out x8_1 p141 q141
                        obtain rfl : ad137 = ad141 := (by injection e141)
                        replace p141 := eq_true p141
                        replace q141 := eq_true q141
                        go_wp2
                        repeat (go_quiet (fail); try go_wp2)
                        go_roundg k1
                        case measure => have := HK1.out; omega
                        case rel => exact ⟨((rd_T41 l1 x8_1).f0), (wrap64 (x8_1 + 1)), (by first | rfl | (simp; done) | (simp [*]; done)), (by first | rfl | (simp; done) | (simp [*]; done)), H', ⟨by have := HK1.out; omega⟩, by repeat (first | exact Drawn0.refl _ | apply Drawn0.step)⟩
                    · rw [if_neg c11] at H
                      have c11b0 : decide ((rd (rd_L1 l0 ((rd_T41 l1 x8_1).f0)) ((rd_T41 l1 x8_1).f1)) < 0) = false := decide_eq_false c11
                      clear c11
                      have H' := Aside0.mk H
                      clear H
                      have p137 : 0 ≤ (x8_1 : Int) := of_decide_eq_true (by first | (with_reducible assumption) | assumption)
                      have q137 : x8_1 < (l1.length : Int) := of_decide_eq_true (by first | (with_reducible assumption) | assumption)
                      obtain ⟨ad137, e137, hx137_0, hx137_1⟩ := at_T41 HR1.out x8_1 p137 q137
                      cases e137
                      replace p137 := eq_true p137
                      replace q137 := eq_true q137
                      have p138 : 0 ≤ (((rd_T41 l1 x8_1).f0) : Int) := of_decide_eq_true (by first | (with_reducible assumption) | assumption)
                      have q138 : ((rd_T41 l1 x8_1).f0) < (l0.length : Int) := of_decide_eq_true (by first | (with_reducible assumption) | assumption)
                      obtain ⟨ad138, A138_0, c138_0, e138, hx138_0, hl138_0, hi138_0⟩ := at_L1 HR0.out ((rd_T41 l1 x8_1).f0) p138 q138
                      cases e138
                      have HR138_0 := Aside0.mk hi138_0
                      have HC138_0 := Aside0.mk hl138_0
                      clear hi138_0 hl138_0
                      replace p138 := eq_true p138
                      replace q138 := eq_true q138
                      have p139 : 0 ≤ (x8_1 : Int) := of_decide_eq_true (by first | (with_reducible assumption) | assumption)
                      have q139 : x8_1 < (l1.length : Int) := of_decide_eq_true (by first | (with_reducible assumption) | assumption)
                      obtain ⟨ad139, e139, hx139_0, hx139_1⟩ := at_T41 HR1.out x8_1 p139 q139
                      obtain rfl : ad137 = ad139 := (by injection e139)
                      replace p139 := eq_true p139
                      replace q139 := eq_true q139
                      have p140 : 0 ≤ (((rd_T41 l1 x8_1).f1) : Int) := of_decide_eq_true (by first | (with_reducible assumption) | assumption)
                      have q140 : ((rd_T41 l1 x8_1).f1) < ((rd_L1 l0 ((rd_T41 l1 x8_1).f0)).length : Int) := of_decide_eq_true (by first | (with_reducible assumption) | assumption)
                      obtain ⟨ad140, e140, hx140_0⟩ := Kd.at_int HR138_0.out ((rd_T41 l1 x8_1).f1) p140 q140
                      cases e140
                      replace p140 := eq_true p140
                      replace q140 := eq_true q140
                      have p141 : 0 ≤ (x8_1 : Int) := of_decide_eq_true (by first | (with_reducible assumption) | assumption)
                      have q141 : x8_1 < (l1.length : Int) := of_decide_eq_true (by first | (with_reducible assumption) | assumption)
                      obtain ⟨ad141, e141, hx141_0, hx141_1⟩ := at_T41 HR1.out x8_1 p141 q141
                      obtain rfl : ad137 = ad141 := (by injection e141)
                      replace p141 := eq_true p141
                      replace q141 := eq_true q141
                      go_wp2
                      repeat (go_quiet (fail); try go_wp2)
                      go_roundg k1
                      case measure => have := HK1.out; omega
                      case rel => exact ⟨((rd_T41 l1 x8_1).f0), (wrap64 (x8_1 + 1)), (by first | rfl | (simp; done) | (simp [*]; done)), (by first | rfl | (simp; done) | (simp [*]; done)), H', ⟨by have := HK1.out; omega⟩, by repeat (first | exact Drawn0.refl _ | apply Drawn0.step)⟩
                  · rw [if_neg c10] at H
                    have c10b0 : ((rd (rd_L1 l0 ((rd_T41 l1 x8_1).f0)) ((rd_T41 l1 x8_1).f1)) == a2) = false := beq_eq_false_iff_ne.mpr c10
                    have c10b1 : ((rd (rd_L1 l0 ((rd_T41 l1 x8_1).f0)) ((rd_T41 l1 x8_1).f1)) != a2) = true := bne_iff_ne.mpr c10
                    by_cases c14 : (rd (rd_L1 l0 ((rd_T41 l1 x8_1).f0)) ((rd_T41 l1 x8_1).f1)) < 0
                    · rw [if_pos c14] at H
                      have c14b0 : decide ((rd (rd_L1 l0 ((rd_T41 l1 x8_1).f0)) ((rd_T41 l1 x8_1).f1)) < 0) = true := decide_eq_true c14
                      clear c14
                      by_cases c15 : (rd (rd_L1 l0 ((rd_T41 l1 x8_1).f0)) ((rd_T41 l1 x8_1).f1)) = (wrap64 (-a2))
                      · rw [if_pos c15] at H
                        have c15b0 : ((rd (rd_L1 l0 ((rd_T41 l1 x8_1).f0)) ((rd_T41 l1 x8_1).f1)) == (wrap64 (-a2))) = true := beq_iff_eq.mpr c15
                        have c15b1 : ((rd (rd_L1 l0 ((rd_T41 l1 x8_1).f0)) ((rd_T41 l1 x8_1).f1)) != (wrap64 (-a2))) = false := bne_eq_false_iff_eq.mpr c15
                        clear c15
                        by_cases c16 : x7_1 = ((rd_T41 l1 x8_1).f0)
                        · rw [if_pos c16] at H
                          have c16b0 : (x7_1 == ((rd_T41 l1 x8_1).f0)) = true := beq_iff_eq.mpr c16
                          have c16b1 : (x7_1 != ((rd_T41 l1 x8_1).f0)) = false := bne_eq_false_iff_eq.mpr c16
                          clear c16
                          have H' := Aside0.mk H
                          clear H
                          have p137 : 0 ≤ (x8_1 : Int) := of_decide_eq_true (by first | (with_reducible assumption) | assumption)
                          have q137 : x8_1 < (l1.length : Int) := of_decide_eq_true (by first | (with_reducible assumption) | assumption)
                          obtain ⟨ad137, e137, hx137_0, hx137_1⟩ := at_T41 HR1.out x8_1 p137 q137
                          cases e137
                          replace p137 := eq_true p137
                          replace q137 := eq_true q137
                          have p138 : 0 ≤ (((rd_T41 l1 x8_1).f0) : Int) := of_decide_eq_true (by first | (with_reducible assumption) | assumption)
                          have q138 : ((rd_T41 l1 x8_1).f0) < (l0.length : Int) := of_decide_eq_true (by first | (with_reducible assumption) | assumption)
                          obtain ⟨ad138, A138_0, c138_0, e138, hx138_0, hl138_0, hi138_0⟩ := at_L1 HR0.out ((rd_T41 l1 x8_1).f0) p138 q138
                          cases e138
                          have HR138_0 := Aside0.mk hi138_0
                          have HC138_0 := Aside0.mk hl138_0
                          clear hi138_0 hl138_0
                          replace p138 := eq_true p138
                          replace q138 := eq_true q138
                          have p139 : 0 ≤ (x8_1 : Int) := of_decide_eq_true (by first | (with_reducible assumption) | assumption)
                          have q139 : x8_1 < (l1.length : Int) := of_decide_eq_true (by first | (with_reducible assumption) | assumption)
                          obtain ⟨ad139, e139, hx139_0, hx139_1⟩ := at_T41 HR1.out x8_1 p139 q139
                          obtain rfl : ad137 = ad139 := (by injection e139)
                          replace p139 := eq_true p139
                          replace q139 := eq_true q139
                          have p140 : 0 ≤ (((rd_T41 l1 x8_1).f1) : Int) := of_decide_eq_true (by first | (with_reducible assumption) | assumption)
                          have q140 : ((rd_T41 l1 x8_1).f1) < ((rd_L1 l0 ((rd_T41 l1 x8_1).f0)).length : Int) := of_decide_eq_true (by first | (with_reducible assumption) | assumption)
                          obtain ⟨ad140, e140, hx140_0⟩ := Kd.at_int HR138_0.out ((rd_T41 l1 x8_1).f1) p140 q140
                          cases e140
                          replace p140 := eq_true p140
                          replace q140 := eq_true q140
                          have p143 : 0 ≤ (x8_1 : Int) := of_decide_eq_true (by first | (with_reducible assumption) | assumption)
                          have q143 : x8_1 < (l1.length : Int) := of_decide_eq_true (by first | (with_reducible assumption) | assumption)
                          obtain ⟨ad143, e143, hx143_0, hx143_1⟩ := at_T41 HR1.out x8_1 p143 q143
                          obtain rfl : ad137 = ad143 := (by injection e143)
                          replace p143 := eq_true p143
                          replace q143 := eq_true q143
                          go_wp2
                          repeat (go_quiet (fail); try go_wp2)
                          go_roundg k1
                          case measure => have := HK1.out; omega
                          case rel => exact ⟨((-1)), (wrap64 (x8_1 + 1)), (by first | rfl | (simp; done) | (simp [*]; done)), (by first | rfl | (simp; done) | (simp [*]; done)), H', ⟨by have := HK1.out; omega⟩, by repeat (first | exact Drawn0.refl _ | apply Drawn0.step)⟩
                        · rw [if_neg c16] at H
                          have c16b0 : (x7_1 == ((rd_T41 l1 x8_1).f0)) = false := beq_eq_false_iff_ne.mpr c16
                          have c16b1 : (x7_1 != ((rd_T41 l1 x8_1).f0)) = true := bne_iff_ne.mpr c16
                          have H' := Aside0.mk H
                          clear H
                          have p137 : 0 ≤ (x8_1 : Int) := of_decide_eq_true (by first | (with_reducible assumption) | assumption)
                          have q137 : x8_1 < (l1.length : Int) := of_decide_eq_true (by first | (with_reducible assumption) | assumption)
                          obtain ⟨ad137, e137, hx137_0, hx137_1⟩ := at_T41 HR1.out x8_1 p137 q137
                          cases e137
                          replace p137 := eq_true p137
                          replace q137 := eq_true q137
                          have p138 : 0 ≤ (((rd_T41 l1 x8_1).f0) : Int) := of_decide_eq_true (by first | (with_reducible assumption) | assumption)
                          have q138 : ((rd_T41 l1 x8_1).f0) < (l0.length : Int) := of_decide_eq_true (by first | (with_reducible assumption) | assumption)
                          obtain ⟨ad138, A138_0, c138_0, e138, hx138_0, hl138_0, hi138_0⟩ := at_L1 HR0.out ((rd_T41 l1 x8_1).f0) p138 q138
                          cases e138
                          have HR138_0 := Aside0.mk hi138_0
                          have HC138_0 := Aside0.mk hl138_0
                          clear hi138_0 hl138_0
                          replace p138 := eq_true p138
                          replace q138 := eq_true q138
                          have p139 : 0 ≤ (x8_1 : Int) := of_decide_eq_true (by first | (with_reducible assumption) | assumption)
                          have q139 : x8_1 < (l1.length : Int) := of_decide_eq_true (by first | (with_reducible assumption) | assumption)
                          obtain ⟨ad139, e139, hx139_0, hx139_1⟩ := at_T41 HR1.out x8_1 p139 q139
                          obtain rfl : ad137 = ad139 := (by injection e139)
                          replace p139 := eq_true p139
                          replace q139 := eq_true q139
                          have p140 : 0 ≤ (((rd_T41 l1 x8_1).f1) : Int) := of_decide_eq_true (by first | (with_reducible assumption) | assumption)
                          have q140 : ((rd_T41 l1 x8_1).f1) < ((rd_L1 l0 ((rd_T41 l1 x8_1).f0)).length : Int) := of_decide_eq_true (by first | (with_reducible assumption) | assumption)
                          obtain ⟨ad140, e140, hx140_0⟩ := Kd.at_int HR138_0.out ((rd_T41 l1 x8_1).f1) p140 q140
                          cases e140
                          replace p140 := eq_true p140
                          replace q140 := eq_true q140
                          have p143 : 0 ≤ (x8_1 : Int) := of_decide_eq_true (by first | (with_reducible assumption) | assumption)
                          have q143 : x8_1 < (l1.length : Int) := of_decide_eq_true (by first | (with_reducible assumption) | assumption)
                          obtain ⟨ad143, e143, hx143_0, hx143_1⟩ := at_T41 HR1.out x8_1 p143 q143
                          obtain rfl : ad137 = ad143 := (by injection e143)
                          replace p143 := eq_true p143
                          replace q143 := eq_true q143
                          go_wp2
                          repeat (go_quiet (fail); try go_wp2)
                          go_roundg k1
                          case measure => have := HK1.out; omega
                          case rel => exact ⟨(x7_1), (wrap64 (x8_1 + 1)), (by first | rfl | (simp; done) | (simp [*]; done)), (by first | rfl | (simp; done) | (simp [*]; done)), H', ⟨by have := HK1.out; omega⟩, by repeat (first | exact Drawn0.refl _ | apply Drawn0.step)⟩
                      · rw [if_neg c15] at H
                        have c15b0 : ((rd (rd_L1 l0 ((rd_T41 l1 x8_1).f0)) ((rd_T41 l1 x8_1).f1)) == (wrap64 (-a2))) = false := beq_eq_false_iff_ne.mpr c15
                        have c15b1 : ((rd (rd_L1 l0 ((rd_T41 l1 x8_1).f0)) ((rd_T41 l1 x8_1).f1)) != (wrap64 (-a2))) = true := bne_iff_ne.mpr c15
                        have H' := Aside0.mk H
                        clear H
                        have p137 : 0 ≤ (x8_1 : Int) := of_decide_eq_true (by first | (with_reducible assumption) | assumption)
                        have q137 : x8_1 < (l1.length : Int) := of_decide_eq_true (by first | (with_reducible assumption) | assumption)
                        obtain ⟨ad137, e137, hx137_0, hx137_1⟩ := at_T41 HR1.out x8_1 p137 q137
                        cases e137
                        replace p137 := eq_true p137
                        replace q137 := eq_true q137
                        have p138 : 0 ≤ (((rd_T41 l1 x8_1).f0) : Int) := of_decide_eq_true (by first | (with_reducible assumption) | assumption)
                        have q138 : ((rd_T41 l1 x8_1).f0) < (l0.length : Int) := of_decide_eq_true (by first | (with_reducible assumption) | assumption)
                        obtain ⟨ad138, A138_0, c138_0, e138, hx138_0, hl138_0, hi138_0⟩ := at_L1 HR0.out ((rd_T41 l1 x8_1).f0) p138 q138
                        cases e138
                        have HR138_0 := Aside0.mk hi138_0
                        have HC138_0 := Aside0.mk hl138_0
                        clear hi138_0 hl138_0
                        replace p138 := eq_true p138
                        replace q138 := eq_true q138
                        have p139 : 0 ≤ (x8_1 : Int) := of_decide_eq_true (by first | (with_reducible assumption) | assumption)
                        have q139 : x8_1 < (l1.length : Int) := of_decide_eq_true (by first | (with_reducible assumption) | assumption)
                        obtain ⟨ad139, e139, hx139_0, hx139_1⟩ := at_T41 HR1.out x8_1 p139 q139
                        obtain rfl : ad137 = ad139 := (by injection e139)
                        replace p139 := eq_true p139
                        replace q139 := eq_true q139
                        have p140 : 0 ≤ (((rd_T41 l1 x8_1).f1) : Int) := of_decide_eq_true (by first | (with_reducible assumption) | assumption)
                        have q140 : ((rd_T41 l1 x8_1).f1) < ((rd_L1 l0 ((rd_T41 l1 x8_1).f0)).length : Int) := of_decide_eq_true (by first | (with_reducible assumption) | assumption)
                        obtain ⟨ad140, e140, hx140_0⟩ := Kd.at_int HR138_0.out ((rd_T41 l1 x8_1).f1) p140 q140
                        cases e140
                        replace p140 := eq_true p140
                        replace q140 := eq_true q140
                        go_wp2
                        repeat (go_quiet (fail); try go_wp2)
                        go_roundg k1
                        case measure => have := HK1.out; omega
                        case rel => exact ⟨(x7_1), (wrap64 (x8_1 + 1)), (by first | rfl | (simp; done) | (simp [*]; done)), (by first | rfl | (simp; done) | (simp [*]; done)), H', ⟨by have := HK1.out; omega⟩, by repeat (first | exact Drawn0.refl _ | apply Drawn0.step)⟩
                    · rw [if_neg c14] at H
                      have c14b0 : decide ((rd (rd_L1 l0 ((rd_T41 l1 x8_1).f0)) ((rd_T41 l1 x8_1).f1)) < 0) = false := decide_eq_false c14
                      clear c14
                      have H' := Aside0.mk H
                      clear H
                      have p137 : 0 ≤ (x8_1 : Int) := of_decide_eq_true (by first | (with_reducible assumption) | assumption)
                      have q137 : x8_1 < (l1.length : Int) := of_decide_eq_true (by first | (with_reducible assumption) | assumption)
                      obtain ⟨ad137, e137, hx137_0, hx137_1⟩ := at_T41 HR1.out x8_1 p137 q137
                      cases e137
                      replace p137 := eq_true p137
                      replace q137 := eq_true q137
                      have p138 : 0 ≤ (((rd_T41 l1 x8_1).f0) : Int) := of_decide_eq_true (by first | (with_reducible assumption) | assumption)
                      have q138 : ((rd_T41 l1 x8_1).f0) < (l0.length : Int) := of_decide_eq_true (by first | (with_reducible assumption) | assumption)
                      obtain ⟨ad138, A138_0, c138_0, e138, hx138_0, hl138_0, hi138_0⟩ := at_L1 HR0.out ((rd_T41 l1 x8_1).f0) p138 q138
                      cases e138
                      have HR138_0 := Aside0.mk hi138_0
                      have HC138_0 := Aside0.mk hl138_0
                      clear hi138_0 hl138_0
                      replace p138 := eq_true p138
                      replace q138 := eq_true q138
                      have p139 : 0 ≤ (x8_1 : Int) := of_decide_eq_true (by first | (with_reducible assumption) | assumption)
                      have q139 : x8_1 < (l1.length : Int) := of_decide_eq_true (by first | (with_reducible assumption) | assumption)
                      obtain ⟨ad139, e139, hx139_0, hx139_1⟩ := at_T41 HR1.out x8_1 p139 q139
                      obtain rfl : ad137 = ad139 := (by injection e139)
                      replace p139 := eq_true p139
                      replace q139 := eq_true q139
                      have p140 : 0 ≤ (((rd_T41 l1 x8_1).f1) : Int) := of_decide_eq_true (by first | (with_reducible assumption) | assumption)
                      have q140 : ((rd_T41 l1 x8_1).f1) < ((rd_L1 l0 ((rd_T41 l1 x8_1).f0)).length : Int) := of_decide_eq_true (by first | (with_reducible assumption) | assumption)
                      obtain ⟨ad140, e140, hx140_0⟩ := Kd.at_int HR138_0.out ((rd_T41 l1 x8_1).f1) p140 q140
                      cases e140
                      replace p140 := eq_true p140
                      replace q140 := eq_true q140
                      go_wp2
                      repeat (go_quiet (fail); try go_wp2)
                      go_roundg k1
                      case measure => have := HK1.out; omega
                      case rel => exact ⟨(x7_1), (wrap64 (x8_1 + 1)), (by first | rfl | (simp; done) | (simp [*]; done)), (by first | rfl | (simp; done) | (simp [*]; done)), H', ⟨by have := HK1.out; omega⟩, by repeat (first | exact Drawn0.refl _ | apply Drawn0.step)⟩
                · rw [if_neg c9] at H
                  exact absurd H (by simp)
              · rw [if_neg c8] at H
                exact absurd H (by simp)
            · rw [if_neg c7] at H
              exact absurd H (by simp)
          · rw [if_neg c6] at H
            exact absurd H (by simp)
        · rw [if_neg c5] at H
          exact absurd H (by simp)
      · rw [if_neg c4] at H
        have c4b0 : decide (x8_1 < (l1.length : Int)) = false := decide_eq_false c4
        clear c4
        obtain rfl := Option.some.inj H
        go_wp2
        repeat (go_quiet (fail); try go_wp2)
        go_ret
        exact ⟨by first | rfl | (simp; done) | (simp [*]; done), by repeat (first | exact Drawn0.refl _ | apply Drawn0.step)⟩

/-! ### gatepostref22_can: function 20 -/
def gatepostref22_can.f (k : Nat) (l0 : List (List Int)) (l1 : List (S41)) (a2 : Int) : Option (Bool) := (gatepostref22_at.f k l1 a2).bind fun t144 => (if 0 ≤ a2 then (if a2 < (l0.length : Int) then (if t144 = ((rd_L1 l0 a2).length : Int) then (some false) else (if 0 ≤ t144 then (if t144 < ((rd_L1 l0 a2).length : Int) then (if (rd (rd_L1 l0 a2) t144) ≤ 0 then (some true) else ((gatepostref22_held.f k l0 l1 (rd (rd_L1 l0 a2) t144)).bind fun t148 => (some (decide (t148 < 0))))) else (none)) else (none))) else (none)) else (none))
theorem gatepostref22_can.mono : ∀ a0 a1 a2 k, LeO (gatepostref22_can.f k a0 a1 a2) (gatepostref22_can.f (k + 1) a0 a1 a2) := by
  intro a0 a1 a2 k
  unfold gatepostref22_can.f
  repeat' first
      | (with_reducible exact gatepostref22_at.mono _ _ _)
      | (with_reducible exact gatepostref22_held.mono _ _ _ _)
      | (with_reducible exact LeO.refl _)
      | (with_reducible exact LeO.none _)
      | (with_reducible refine LeO.ite ?_ ?_)
      | (with_reducible refine LeO.bind ?_ (fun _ => ?_))
      | exact gatepostref22_at.mono _ _ _
      | exact gatepostref22_held.mono _ _ _ _
      | exact LeO.none _
      | refine LeO.ite ?_ ?_
      | refine LeO.bind ?_ (fun _ => ?_)
set_option maxHeartbeats 8000000 in
set_option maxRecDepth 100000 in
theorem gatepostref22_can.calls (k : Nat) (A0 : Option Addr) (c0 : Nat) (l0 : List (List Int)) (A1 : Option Addr) (c1 : Nat) (l1 : List (S41)) (a2 : Int) (r : Bool) (w : World) (hr0 : Kd.C (Kd.slice 3 (Kd.int .i64)) w A0 l0.length l0) (hc0 : l0.length ≤ c0) (hr1 : Kd.C k41 w A1 l1.length l1) (hc1 : l1.length ≤ c1) (h : gatepostref22_can.f k l0 l1 a2 = some r) :
    Calls Try.prog 20 #[.slice A0 l0.length c0, .slice A1 l1.length c1, .int .i64 a2] w fun e w' => e = .returned (.bool r) ∧ Drawn0 w w' := by
  have HR0 := Aside0.mk hr0
  have HC0 := Aside0.mk hc0
  clear hr0 hc0
  have HR1 := Aside0.mk hr1
  have HC1 := Aside0.mk hc1
  clear hr1 hc1
  have H : ((gatepostref22_at.f k l1 a2).bind fun t144 => (if 0 ≤ a2 then (if a2 < (l0.length : Int) then (if t144 = ((rd_L1 l0 a2).length : Int) then (some false) else (if 0 ≤ t144 then (if t144 < ((rd_L1 l0 a2).length : Int) then (if (rd (rd_L1 l0 a2) t144) ≤ 0 then (some true) else ((gatepostref22_held.f k l0 l1 (rd (rd_L1 l0 a2) t144)).bind fun t148 => (some (decide (t148 < 0))))) else (none)) else (none))) else (none)) else (none))) = some r := h
  clear h
  replace H := Option.bind_eq_some_iff.mp H
  obtain ⟨t144, A40, H⟩ := H
  replace H : (if 0 ≤ a2 then (if a2 < (l0.length : Int) then (if t144 = ((rd_L1 l0 a2).length : Int) then (some false) else (if 0 ≤ t144 then (if t144 < ((rd_L1 l0 a2).length : Int) then (if (rd (rd_L1 l0 a2) t144) ≤ 0 then (some true) else ((gatepostref22_held.f k l0 l1 (rd (rd_L1 l0 a2) t144)).bind fun t148 => (some (decide (t148 < 0))))) else (none)) else (none))) else (none)) else (none)) = some r := H
  have A4 := Aside0.mk A40
  clear A40
  by_cases c5 : 0 ≤ a2
  · rw [if_pos c5] at H
    have c5b0 : decide (0 ≤ a2) = true := decide_eq_true c5
    clear c5
    by_cases c6 : a2 < (l0.length : Int)
    · rw [if_pos c6] at H
      have c6b0 : decide (a2 < (l0.length : Int)) = true := decide_eq_true c6
      clear c6
      by_cases c7 : t144 = ((rd_L1 l0 a2).length : Int)
      · rw [if_pos c7] at H
        have c7b0 : (t144 == ((rd_L1 l0 a2).length : Int)) = true := beq_iff_eq.mpr c7
        have c7b1 : (t144 != ((rd_L1 l0 a2).length : Int)) = false := bne_eq_false_iff_eq.mpr c7
        clear c7
        obtain rfl := Option.some.inj H
        go_enter Try.func20, Try.ntmps20
        go_wp2_with (first | ((with_reducible refine gate_callee (f := 21) rfl ?_); refine goesL_ (some 11) rfl rfl Try.func21 (by kernel_rfl) rfl #[.slice A1 l1.length c1, .int .i64 a2] rfl (by (try simp only [List.map_toArray, List.map_cons, List.map_nil]); first | done | rfl | (simp only [List.length_drop, List.length_take]; rfl)) ?_; (with_reducible refine (gatepostref22_at.calls k _ _ l1 a2 t144 _ ?side1 ?side2 A4.out).mono ?_); (case side1 => repeat (first | exact HR1.out | (with_reducible refine Kd.C_alloc ?_ _) | (with_reducible refine Kd.C_drewN ?_ _) | (with_reducible refine Kd.C_drew ?_))); (case side2 => exact HC1.out); rintro e w' ⟨rfl, ⟨nd, rfl⟩⟩; refine ⟨_, rfl, ?_⟩; have p145 : 0 ≤ (a2 : Int) := of_decide_eq_true (by first | (with_reducible assumption) | assumption); have q145 : a2 < (l0.length : Int) := of_decide_eq_true (by first | (with_reducible assumption) | assumption); obtain ⟨ad145, A145_0, c145_0, e145, hx145_0, hl145_0, hi145_0⟩ := at_L1 HR0.out a2 p145 q145; cases e145; have HR145_0 := Aside0.mk hi145_0; have HC145_0 := Aside0.mk hl145_0; clear hi145_0 hl145_0; replace p145 := eq_true p145; replace q145 := eq_true q145))
        go_ret
        exact ⟨by first | rfl | (simp; done) | (simp [*]; done), by repeat (first | exact Drawn0.refl _ | apply Drawn0.step)⟩
      · rw [if_neg c7] at H
        have c7b0 : (t144 == ((rd_L1 l0 a2).length : Int)) = false := beq_eq_false_iff_ne.mpr c7
        have c7b1 : (t144 != ((rd_L1 l0 a2).length : Int)) = true := bne_iff_ne.mpr c7
        by_cases c8 : 0 ≤ t144
        · rw [if_pos c8] at H
          have c8b0 : decide (0 ≤ t144) = true := decide_eq_true c8
          clear c8
          by_cases c9 : t144 < ((rd_L1 l0 a2).length : Int)
          · rw [if_pos c9] at H
            have c9b0 : decide (t144 < ((rd_L1 l0 a2).length : Int)) = true := decide_eq_true c9
            clear c9
            by_cases c10 : (rd (rd_L1 l0 a2) t144) ≤ 0
            · rw [if_pos c10] at H
              have c10b0 : decide ((rd (rd_L1 l0 a2) t144) ≤ 0) = true := decide_eq_true c10
              clear c10
              obtain rfl := Option.some.inj H
              go_enter Try.func20, Try.ntmps20
              go_wp2_with (first | ((with_reducible refine gate_callee (f := 21) rfl ?_); refine goesL_ (some 11) rfl rfl Try.func21 (by kernel_rfl) rfl #[.slice A1 l1.length c1, .int .i64 a2] rfl (by (try simp only [List.map_toArray, List.map_cons, List.map_nil]); first | done | rfl | (simp only [List.length_drop, List.length_take]; rfl)) ?_; (with_reducible refine (gatepostref22_at.calls k _ _ l1 a2 t144 _ ?side1 ?side2 A4.out).mono ?_); (case side1 => repeat (first | exact HR1.out | (with_reducible refine Kd.C_alloc ?_ _) | (with_reducible refine Kd.C_drewN ?_ _) | (with_reducible refine Kd.C_drew ?_))); (case side2 => exact HC1.out); rintro e w' ⟨rfl, ⟨nd, rfl⟩⟩; refine ⟨_, rfl, ?_⟩; have p145 : 0 ≤ (a2 : Int) := of_decide_eq_true (by first | (with_reducible assumption) | assumption); have q145 : a2 < (l0.length : Int) := of_decide_eq_true (by first | (with_reducible assumption) | assumption); obtain ⟨ad145, A145_0, c145_0, e145, hx145_0, hl145_0, hi145_0⟩ := at_L1 HR0.out a2 p145 q145; cases e145; have HR145_0 := Aside0.mk hi145_0; have HC145_0 := Aside0.mk hl145_0; clear hi145_0 hl145_0; replace p145 := eq_true p145; replace q145 := eq_true q145; have p146 : 0 ≤ (a2 : Int) := of_decide_eq_true (by first | (with_reducible assumption) | assumption); have q146 : a2 < (l0.length : Int) := of_decide_eq_true (by first | (with_reducible assumption) | assumption); obtain ⟨ad146, A146_0, c146_0, e146, hx146_0, hl146_0, hi146_0⟩ := at_L1 HR0.out a2 p146 q146; obtain rfl : ad145 = ad146 := (by injection e146); have HR146_0 := Aside0.mk hi146_0; have HC146_0 := Aside0.mk hl146_0; clear hi146_0 hl146_0; replace p146 := eq_true p146; replace q146 := eq_true q146; have ea_ := Option.some.inj (hx145_0.symm.trans hx146_0); injection ea_ with ea_ en_ ec_; subst ea_; subst ec_; clear en_; have p147 : 0 ≤ (t144 : Int) := of_decide_eq_true (by first | (with_reducible assumption) | assumption); have q147 : t144 < ((rd_L1 l0 a2).length : Int) := of_decide_eq_true (by first | (with_reducible assumption) | assumption); obtain ⟨ad147, e147, hx147_0⟩ := Kd.at_int HR146_0.out t144 p147 q147; cases e147; replace p147 := eq_true p147; replace q147 := eq_true q147))
              go_ret
              exact ⟨by first | rfl | (simp; done) | (simp [*]; done), by repeat (first | exact Drawn0.refl _ | apply Drawn0.step)⟩
            · rw [if_neg c10] at H
              have c10b0 : decide ((rd (rd_L1 l0 a2) t144) ≤ 0) = false := decide_eq_false c10
              clear c10
              replace H := Option.bind_eq_some_iff.mp H
              obtain ⟨t148, A110, H⟩ := H
              replace H : (some (decide (t148 < 0))) = some r := H
              have A11 := Aside0.mk A110
              clear A110
              obtain rfl := Option.some.inj H
              go_enter Try.func20, Try.ntmps20
              go_wp2_with (first | ((with_reducible refine gate_callee (f := 21) rfl ?_); refine goesL_ (some 11) rfl rfl Try.func21 (by kernel_rfl) rfl #[.slice A1 l1.length c1, .int .i64 a2] rfl (by (try simp only [List.map_toArray, List.map_cons, List.map_nil]); first | done | rfl | (simp only [List.length_drop, List.length_take]; rfl)) ?_; (with_reducible refine (gatepostref22_at.calls k _ _ l1 a2 t144 _ ?side1 ?side2 A4.out).mono ?_); (case side1 => repeat (first | exact HR1.out | (with_reducible refine Kd.C_alloc ?_ _) | (with_reducible refine Kd.C_drewN ?_ _) | (with_reducible refine Kd.C_drew ?_))); (case side2 => exact HC1.out); rintro e w' ⟨rfl, ⟨nd, rfl⟩⟩; refine ⟨_, rfl, ?_⟩; have p145 : 0 ≤ (a2 : Int) := of_decide_eq_true (by first | (with_reducible assumption) | assumption); have q145 : a2 < (l0.length : Int) := of_decide_eq_true (by first | (with_reducible assumption) | assumption); obtain ⟨ad145, A145_0, c145_0, e145, hx145_0, hl145_0, hi145_0⟩ := at_L1 HR0.out a2 p145 q145; cases e145; have HR145_0 := Aside0.mk hi145_0; have HC145_0 := Aside0.mk hl145_0; clear hi145_0 hl145_0; replace p145 := eq_true p145; replace q145 := eq_true q145; have p146 : 0 ≤ (a2 : Int) := of_decide_eq_true (by first | (with_reducible assumption) | assumption); have q146 : a2 < (l0.length : Int) := of_decide_eq_true (by first | (with_reducible assumption) | assumption); obtain ⟨ad146, A146_0, c146_0, e146, hx146_0, hl146_0, hi146_0⟩ := at_L1 HR0.out a2 p146 q146; obtain rfl : ad145 = ad146 := (by injection e146); have HR146_0 := Aside0.mk hi146_0; have HC146_0 := Aside0.mk hl146_0; clear hi146_0 hl146_0; replace p146 := eq_true p146; replace q146 := eq_true q146; have ea_ := Option.some.inj (hx145_0.symm.trans hx146_0); injection ea_ with ea_ en_ ec_; subst ea_; subst ec_; clear en_; have p147 : 0 ≤ (t144 : Int) := of_decide_eq_true (by first | (with_reducible assumption) | assumption); have q147 : t144 < ((rd_L1 l0 a2).length : Int) := of_decide_eq_true (by first | (with_reducible assumption) | assumption); obtain ⟨ad147, e147, hx147_0⟩ := Kd.at_int HR146_0.out t144 p147 q147; cases e147; replace p147 := eq_true p147; replace q147 := eq_true q147) | (go_at_call 24; (with_reducible refine (gatepostref22_held.calls k _ _ l0 _ _ l1 (rd (rd_L1 l0 a2) t144) t148 _ ?side1 ?side2 ?side3 ?side4 A11.out).mono ?_); (case side1 => repeat (first | exact HR0.out | (with_reducible refine Kd.C_alloc ?_ _) | (with_reducible refine Kd.C_drewN ?_ _) | (with_reducible refine Kd.C_drew ?_))); (case side2 => exact HC0.out); (case side3 => repeat (first | exact HR1.out | (with_reducible refine Kd.C_alloc ?_ _) | (with_reducible refine Kd.C_drewN ?_ _) | (with_reducible refine Kd.C_drew ?_))); (case side4 => exact HC1.out); rintro e w' ⟨rfl, ⟨nd, rfl⟩⟩))
              go_ret
              exact ⟨by first | rfl | (simp; done) | (simp [*]; done), by repeat (first | exact Drawn0.refl _ | apply Drawn0.step)⟩
          · rw [if_neg c9] at H
            exact absurd H (by simp)
        · rw [if_neg c8] at H
          exact absurd H (by simp)
    · rw [if_neg c6] at H
      exact absurd H (by simp)
  · rw [if_neg c5] at H
    exact absurd H (by simp)

end Go.Proofs.Ytglafngeeggeeaa.PSch
