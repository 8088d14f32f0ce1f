/- Proved here: that functions of the program come to what plain Lean functions say, and (where it stands) the row of a law. No condition beyond that of the rows. Laid by a program of this session (wip/printgiven.py) out of the print of the translation. -/
import Derived.Test.YtglafngeeggeeaaPSchx0
import Derived.Test.YtglafngeeggeeaaPSchx3
namespace Go.Proofs.Ytglafngeeggeeaa.PSch
open Go.RowKit Go.Proofs.YtglafngeeggeeaaW.PrintWords Go.Proofs.YtglafngeeggeeaaW.PrintLast Go.Proofs.YtglafngeeggeeaaW.PrintMore
attribute [local go_sem] max2_int min2_int max_two min_two max_three min_three max_four min_four   -- for this text's walks alone
set_option linter.unusedVariables false
set_option linter.unusedSimpArgs false

/-! ### gatepostref22_Order: function 12 -/
mutual
def gatepostref22_Order.l0 : Nat → List (List Int) → List Int → List (S41) → Int → Option ((List (S41)))
  | 0, _, _, _, _ => none
  | k + 1, x0, x1, x5, x6 => if (x0.length : Int) > 0 then (if (x5.length : Int) > 0 then (if 0 ≤ (wrap64 ((x5.length : Int) - 1)) then (if (wrap64 ((x5.length : Int) - 1)) < (x5.length : Int) then (if (x0.length : Int) = 0 then (none) else (gatepostref22_Order.j1 k x0 x1 x5 x6 (Int.tmod (wrap64 (((rd_T41 x5 (wrap64 ((x5.length : Int) - 1))).f0) + 1)) (x0.length : Int)))) else (none)) else (none)) else (gatepostref22_Order.j1 k x0 x1 x5 x6 0)) else (some x5)
def gatepostref22_Order.j1 : Nat → List (List Int) → List Int → List (S41) → Int → Int → Option ((List (S41)))
  | 0, _, _, _, _, _ => none
  | k + 1, x0, x1, x5, x6, x7 => if x6 < (x1.length : Int) then (if 0 ≤ x6 then (if (x0.length : Int) = 0 then (none) else (if (Int.tmod (rd x1 x6) (x0.length : Int)) < 0 then (gatepostref22_Order.j2 k x0 x1 x5 x6 (wrap64 ((Int.tmod (rd x1 x6) (x0.length : Int)) + (x0.length : Int)))) else (gatepostref22_Order.j2 k x0 x1 x5 x6 (Int.tmod (rd x1 x6) (x0.length : Int))))) else (none)) else (gatepostref22_Order.j2 k x0 x1 x5 x6 x7)
def gatepostref22_Order.j2 : Nat → List (List Int) → List Int → List (S41) → Int → Int → Option ((List (S41)))
  | 0, _, _, _, _, _ => none
  | k + 1, x0, x1, x5, x6, x7 => gatepostref22_Order.l1 k x0 x1 x5 x6 x7 0
def gatepostref22_Order.l1 : Nat → List (List Int) → List Int → List (S41) → Int → Int → Int → Option ((List (S41)))
  | 0, _, _, _, _, _, _ => none
  | k + 1, x0, x1, x5, x6, x7, x8 => if x8 < (x0.length : Int) then (if (x0.length : Int) = 0 then (none) else ((gatepostref22_can.f k x0 x5 (Int.tmod (wrap64 (x7 + x8)) (x0.length : Int))).bind fun t151 => (if t151 = true then (if x8 = (x0.length : Int) then (some x5) else ((gatepostref22_at.f k x5 (Int.tmod (wrap64 (x7 + x8)) (x0.length : Int))).bind fun t152 => (if x5.length < 8796093022208 then (gatepostref22_Order.l0 k x0 x1 (x5 ++ [(⟨Int.tmod (wrap64 (x7 + x8)) (x0.length : Int), t152⟩ : S41)]) (wrap64 (x6 + 1))) else (none)))) else (gatepostref22_Order.l1 k x0 x1 x5 x6 x7 (wrap64 (x8 + 1)))))) else (if x8 = (x0.length : Int) then (some x5) else (if (x0.length : Int) = 0 then (none) else ((gatepostref22_at.f k x5 (Int.tmod (wrap64 (x7 + x8)) (x0.length : Int))).bind fun t156 => (if x5.length < 8796093022208 then (gatepostref22_Order.l0 k x0 x1 (x5 ++ [(⟨Int.tmod (wrap64 (x7 + x8)) (x0.length : Int), t156⟩ : S41)]) (wrap64 (x6 + 1))) else (none)))))
end
def gatepostref22_Order.f (k : Nat) (l0 : List (List Int)) (l1 : List Int) : Option ((List (S41))) := gatepostref22_Order.l0 k l0 l1 ([] : List (S41)) 0
theorem gatepostref22_Order.mono_l : ∀ k, (∀ y0 y1 y2 y3, LeO (gatepostref22_Order.l0 k y0 y1 y2 y3) (gatepostref22_Order.l0 (k + 1) y0 y1 y2 y3)) ∧ (∀ y0 y1 y2 y3 y4, LeO (gatepostref22_Order.j1 k y0 y1 y2 y3 y4) (gatepostref22_Order.j1 (k + 1) y0 y1 y2 y3 y4)) ∧ (∀ y0 y1 y2 y3 y4, LeO (gatepostref22_Order.j2 k y0 y1 y2 y3 y4) (gatepostref22_Order.j2 (k + 1) y0 y1 y2 y3 y4)) ∧ (∀ y0 y1 y2 y3 y4 y5, LeO (gatepostref22_Order.l1 k y0 y1 y2 y3 y4 y5) (gatepostref22_Order.l1 (k + 1) y0 y1 y2 y3 y4 y5))
  | 0 => ⟨fun _ _ _ _ r h => by simp [gatepostref22_Order.l0] at h, fun _ _ _ _ _ r h => by simp [gatepostref22_Order.j1] at h, fun _ _ _ _ _ r h => by simp [gatepostref22_Order.j2] at h, fun _ _ _ _ _ _ r h => by simp [gatepostref22_Order.l1] at h⟩
  | k + 1 => by
    obtain ⟨ih0, ih1, ih2, ih3⟩ := gatepostref22_Order.mono_l k
    refine ⟨?_, ?_, ?_, ?_⟩
    · intro y0 y1 y2 y3
      unfold gatepostref22_Order.l0
      repeat' first
      | (with_reducible exact ih0 _ _ _ _)
      | (with_reducible exact ih1 _ _ _ _ _)
      | (with_reducible exact ih2 _ _ _ _ _)
      | (with_reducible exact ih3 _ _ _ _ _ _)
      | (with_reducible exact gatepostref22_at.mono _ _ _)
      | (with_reducible exact gatepostref22_can.mono _ _ _ _)
      | (with_reducible exact LeO.refl _)
      | (with_reducible exact LeO.none _)
      | (with_reducible refine LeO.ite ?_ ?_)
      | (with_reducible refine LeO.bind ?_ (fun _ => ?_))
      | exact ih0 _ _ _ _
      | exact ih1 _ _ _ _ _
      | exact ih2 _ _ _ _ _
      | exact ih3 _ _ _ _ _ _
      | exact gatepostref22_at.mono _ _ _
      | exact gatepostref22_can.mono _ _ _ _
      | exact LeO.none _
      | refine LeO.ite ?_ ?_
      | refine LeO.bind ?_ (fun _ => ?_)
    · intro y0 y1 y2 y3 y4
      unfold gatepostref22_Order.j1
      repeat' first
      | (with_reducible exact ih0 _ _ _ _)
      | (with_reducible exact ih1 _ _ _ _ _)
      | (with_reducible exact ih2 _ _ _ _ _)
      | (with_reducible exact ih3 _ _ _ _ _ _)
      | (with_reducible exact gatepostref22_at.mono _ _ _)
      | (with_reducible exact gatepostref22_can.mono _ _ _ _)
      | (with_reducible exact LeO.refl _)
      | (with_reducible exact LeO.none _)
      | (with_reducible refine LeO.ite ?_ ?_)
      | (with_reducible refine LeO.bind ?_ (fun _ => ?_))
      | exact ih0 _ _ _ _
      | exact ih1 _ _ _ _ _
      | exact ih2 _ _ _ _ _
      | exact ih3 _ _ _ _ _ _
      | exact gatepostref22_at.mono _ _ _
      | exact gatepostref22_can.mono _ _ _ _
      | exact LeO.none _
      | refine LeO.ite ?_ ?_
      | refine LeO.bind ?_ (fun _ => ?_)
    · intro y0 y1 y2 y3 y4
      unfold gatepostref22_Order.j2
      repeat' first
      | (with_reducible exact ih0 _ _ _ _)
      | (with_reducible exact ih1 _ _ _ _ _)
      | (with_reducible exact ih2 _ _ _ _ _)
      | (with_reducible exact ih3 _ _ _ _ _ _)
      | (with_reducible exact gatepostref22_at.mono _ _ _)
      | (with_reducible exact gatepostref22_can.mono _ _ _ _)
      | (with_reducible exact LeO.refl _)
      | (with_reducible exact LeO.none _)
      | (with_reducible refine LeO.ite ?_ ?_)
      | (with_reducible refine LeO.bind ?_ (fun _ => ?_))
      | exact ih0 _ _ _ _
      | exact ih1 _ _ _ _ _
      | exact ih2 _ _ _ _ _
      | exact ih3 _ _ _ _ _ _
      | exact gatepostref22_at.mono _ _ _
      | exact gatepostref22_can.mono _ _ _ _
      | exact LeO.none _
      | refine LeO.ite ?_ ?_
      | refine LeO.bind ?_ (fun _ => ?_)
    · intro y0 y1 y2 y3 y4 y5
      unfold gatepostref22_Order.l1
      repeat' first
      | (with_reducible exact ih0 _ _ _ _)
      | (with_reducible exact ih1 _ _ _ _ _)
      | (with_reducible exact ih2 _ _ _ _ _)
      | (with_reducible exact ih3 _ _ _ _ _ _)
      | (with_reducible exact gatepostref22_at.mono _ _ _)
      | (with_reducible exact gatepostref22_can.mono _ _ _ _)
      | (with_reducible exact LeO.refl _)
      | (with_reducible exact LeO.none _)
      | (with_reducible refine LeO.ite ?_ ?_)
      | (with_reducible refine LeO.bind ?_ (fun _ => ?_))
      | exact ih0 _ _ _ _
      | exact ih1 _ _ _ _ _
      | exact ih2 _ _ _ _ _
      | exact ih3 _ _ _ _ _ _
      | exact gatepostref22_at.mono _ _ _
      | exact gatepostref22_can.mono _ _ _ _
      | exact LeO.none _
      | refine LeO.ite ?_ ?_
      | refine LeO.bind ?_ (fun _ => ?_)
theorem gatepostref22_Order.mono : ∀ a0 a1 k, LeO (gatepostref22_Order.f k a0 a1) (gatepostref22_Order.f (k + 1) a0 a1) := by
  intro a0 a1 k
  obtain ⟨ih0, ih1, ih2, ih3⟩ := gatepostref22_Order.mono_l k
  unfold gatepostref22_Order.f
  repeat' first
      | (with_reducible exact ih0 _ _ _ _)
      | (with_reducible exact ih1 _ _ _ _ _)
      | (with_reducible exact ih2 _ _ _ _ _)
      | (with_reducible exact ih3 _ _ _ _ _ _)
      | (with_reducible exact gatepostref22_at.mono _ _ _)
      | (with_reducible exact gatepostref22_can.mono _ _ _ _)
      | (with_reducible exact LeO.refl _)
      | (with_reducible exact LeO.none _)
      | (with_reducible refine LeO.ite ?_ ?_)
      | (with_reducible refine LeO.bind ?_ (fun _ => ?_))
      | exact ih0 _ _ _ _
      | exact ih1 _ _ _ _ _
      | exact ih2 _ _ _ _ _
      | exact ih3 _ _ _ _ _ _
      | exact gatepostref22_at.mono _ _ _
      | exact gatepostref22_can.mono _ _ _ _
      | exact LeO.none _
      | refine LeO.ite ?_ ?_
      | refine LeO.bind ?_ (fun _ => ?_)
set_option maxHeartbeats 8000000 in
set_option maxRecDepth 100000 in
theorem gatepostref22_Order.calls (k : Nat) (A0 : Option Addr) (c0 : Nat) (l0 : List (List Int)) (A1 : Option Addr) (c1 : Nat) (l1 : List Int) (r : List (S41)) (w : World) (hr0 : Kd.C (Kd.slice 3 (Kd.int .i64)) w A0 l0.length l0) (hc0 : l0.length ≤ c0) (hr1 : Kd.C (Kd.int .i64) w A1 l1.length l1) (hc1 : l1.length ≤ c1) (h : gatepostref22_Order.f k l0 l1 = some r) :
    Calls Try.prog 12 #[.slice A0 l0.length c0, .slice A1 l1.length c1] w fun e w' => ∃ v0_ : Value, e = .returned (v0_) ∧ Kd.R k41 41 w' w.heap.size (fun _ => True) v0_ r ∧ Below w.heap.size w w' := by
  have hu41 := Try.underlying41
  have HR0 := Aside0.mk hr0
  have HC0 := Aside0.mk hc0
  clear hr0 hc0
  have HR1 := Aside0.mk hr1
  have HC1 := Aside0.mk hc1
  clear hr1 hc1
  have HB := Aside0.mk (Below.refl w.heap.size w)
  have H : (gatepostref22_Order.l0 k l0 l1 ([] : List (S41)) 0) = some r := h
  clear h
  have H' := Aside0.mk H
  clear H
  go_enter Try.func12, Try.ntmps12
  go_wp2
  go_loopg [5, 6] k (fun kq v5 v6 w' => ∃ (x5_1 : List (S41)) (x6_1 : Int), v6 = .int .i64 x6_1 ∧ Aside0 (gatepostref22_Order.l0 kq l0 l1 x5_1 x6_1 = some r) ∧ Aside0 (kq ≤ k) ∧ Aside0 (Kd.R k41 41 w' w.heap.size (fun _ => True) v5 x5_1) ∧ Aside0 (Below w.heap.size w w'))
  case atStart => exact ⟨(([] : List (S41))), (0), (by first | rfl | (simp; done) | (simp [*]; done)), H', ⟨Nat.le_refl _⟩, ⟨by first | exact Kd.R_nil _ _ _ _ _ | exact Kd.N_nil _ _ _ _ _ | exact Kd.V_nil _ _ _ _ _ | exact Kd.Q_nil _ _ _ _ _ | exact Kd.S_nil _ _ _ _ _⟩, ⟨by repeat (first | (with_reducible first | exact HB.out | apply below_alloc | apply pw_below_drewN | apply below_drew1) | exact HB.out)⟩⟩
  case round =>
    clear H'
    try clear c1
    try clear p2
    obtain ⟨x5_1, x6_1, rfl, HA, HK1, HO_5, HB⟩ := hrel
    cases gk with
    | zero => exact absurd HA.out (by simp [gatepostref22_Order.l0])
    | succ k1 =>
      have H := HA.out
      clear HA
      simp only [gatepostref22_Order.l0] at H
      by_cases c3 : (l0.length : Int) > 0
      · rw [if_pos c3] at H
        have c3b0 : decide (0 < (l0.length : Int)) = true := decide_eq_true c3
        have c3b1 : decide (0 < l0.length) = true := decide_eq_true (by omega)
        clear c3
        have HC4 := Aside0.mk H
        clear H
        obtain ⟨Ao5, co5, eo5⟩ := Kd.R_slice HO_5.out
        subst eo5
        go_upto_if 17 with (fail)
        go_cut [7] (fun v7 wc => ∃ (kq : Nat) (x7_3 : Int), v7 = .int .i64 x7_3 ∧ Aside0 (gatepostref22_Order.j1 kq l0 l1 x5_1 x6_1 x7_3 = some r) ∧ Aside0 (kq ≤ k1) ∧ Aside0 (Kd.R k41 41 wc w.heap.size (fun _ => True) (.slice Ao5 x5_1.length co5) x5_1) ∧ Aside0 (Below w.heap.size w wc))
        case first =>
          have H := HC4.out
          clear HC4
          by_cases c6 : (x5_1.length : Int) > 0
          · rw [if_pos c6] at H
            have c6b0 : decide (0 < (x5_1.length : Int)) = true := decide_eq_true c6
            have c6b1 : decide (0 < x5_1.length) = true := decide_eq_true (by omega)
            clear c6
            (first | rw [c6b0] | rw [c6b1] | (simp only [i64_w, i32_w]; rw [c6b0]) | skip)
            obtain ⟨ji7, hji7⟩ : ∃ j_ : Int, (wrap64 ((x5_1.length : Int) - 1)) = j_ := ⟨_, rfl⟩
            replace H : (if 0 ≤ (ji7) then (if (ji7) < (x5_1.length : Int) then (if (l0.length : Int) = 0 then (none) else (gatepostref22_Order.j1 k1 l0 l1 x5_1 x6_1 (Int.tmod (wrap64 (((rd_T41 x5_1 (ji7)).f0) + 1)) (l0.length : Int)))) else (none)) else (none)) = some r := by first | (rw [hji7] at H; exact H) | (simp only [hji7] at H ⊢; exact H)
            have hji7w : (IntKind.i64.wrap ((x5_1.length : Int) - 1)) = ji7 := (i64_w _).trans hji7
            by_cases c8 : 0 ≤ (ji7)
            · rw [if_pos c8] at H
              have c8b0 : decide (0 ≤ (ji7)) = true := decide_eq_true c8
              clear c8
              by_cases c9 : (ji7) < (x5_1.length : Int)
              · rw [if_pos c9] at H
                have c9b0 : decide ((ji7) < (x5_1.length : Int)) = true := decide_eq_true c9
                clear c9
                by_cases c10 : (l0.length : Int) = 0
                · rw [if_pos c10] at H
                  exact absurd H (by simp)
                · rw [if_neg c10] at H
                  have c10b0 : ((l0.length : Int) == 0) = false := beq_eq_false_iff_ne.mpr c10
                  have c10b1 : ((l0.length : Int) != 0) = true := bne_iff_ne.mpr c10
                  have c10b2 : ¬ (l0 = []) := fun h_ => c10 (by rw [h_]; rfl)
                  have H' := Aside0.mk H
                  clear H
                  have p149 : 0 ≤ ((ji7) : Int) := of_decide_eq_true (by first | (with_reducible assumption) | assumption)
                  have q149 : (ji7) < (x5_1.length : Int) := of_decide_eq_true (by first | (with_reducible assumption) | assumption)
                  obtain ⟨ad149, e149, hx149_0, hx149_1⟩ := at_T41 (Kd.R_reads' HO_5.out).2.2 (ji7) p149 q149
                  cases e149
                  replace p149 := eq_true p149
                  replace q149 := eq_true q149
                  go_wp2
                  go_meet
                  case rel => exact ⟨_, (Int.tmod (wrap64 (((rd_T41 x5_1 (ji7)).f0) + 1)) (l0.length : Int)), (by first | rfl | (simp; done) | (simp only [← hji7] <;> (first | rfl | simp)) | (simp [*]; done)), H', ⟨by have := HK1.out; first | omega | exact Nat.le_refl _⟩, ⟨by (with_reducible repeat (first | apply Kd.R_alloc | apply Kd.R_drewN | apply Kd.R_drew)); exact HO_5.out⟩, ⟨by repeat (first | (with_reducible first | exact HB.out | apply below_alloc | apply pw_below_drewN | apply below_drew1) | exact HB.out)⟩⟩
              · rw [if_neg c9] at H
                exact absurd H (by simp)
            · rw [if_neg c8] at H
              exact absurd H (by simp)
          · rw [if_neg c6] at H
            have c6b0 : decide (0 < (x5_1.length : Int)) = false := decide_eq_false c6
            have c6b1 : decide (0 < x5_1.length) = false := decide_eq_false (by omega)
            clear c6
            (first | rw [c6b0] | rw [c6b1] | (simp only [i64_w, i32_w]; rw [c6b0]) | skip)
            have H' := Aside0.mk H
            clear H
            go_wp2
            go_meet
            case rel => exact ⟨_, (0), (by first | rfl | (simp; done) | (simp [*]; done)), H', ⟨by have := HK1.out; first | omega | exact Nat.le_refl _⟩, ⟨by (with_reducible repeat (first | apply Kd.R_alloc | apply Kd.R_drewN | apply Kd.R_drew)); exact HO_5.out⟩, ⟨by repeat (first | (with_reducible first | exact HB.out | apply below_alloc | apply pw_below_drewN | apply below_drew1) | exact HB.out)⟩⟩
        case rest =>
          clear HC4
          try clear c1
          try clear p1
          try clear q1
          try clear hx1
          try clear p2
          try clear c3
          try clear c3b0
          try clear c3b1
          try clear c6
          try clear c6b0
          try clear c6b1
          try clear p6
          try clear c8
          try clear c8b0
          try clear c9
          try clear c9b0
          try clear c10
          try clear c10b0
          try clear c10b1
          try clear c10b2
          try clear hx149_0
          try clear hx149_1
          try clear p149
          try clear p2
          try clear q149
          obtain ⟨kq, x7_3, rfl, HA, HJ3, HO_5, HB⟩ := hcut
          cases kq with
          | zero => exact absurd HA.out (by simp [gatepostref22_Order.j1])
          | succ kj3 =>
            have H := HA.out
            clear HA
            simp only [gatepostref22_Order.j1] at H
            have HC11 := Aside0.mk H
            clear H
            go_upto_if 32 with (fail)
            go_cut [7] (fun v7 wc => ∃ (kq : Nat) (x7_10 : Int), v7 = .int .i64 x7_10 ∧ Aside0 (gatepostref22_Order.j2 kq l0 l1 x5_1 x6_1 x7_10 = some r) ∧ Aside0 (kq ≤ kj3) ∧ Aside0 (Kd.R k41 41 wc w.heap.size (fun _ => True) (.slice Ao5 x5_1.length co5) x5_1) ∧ Aside0 (Below w.heap.size w wc))
            case first =>
              have H := HC11.out
              clear HC11
              by_cases c12 : x6_1 < (l1.length : Int)
              · rw [if_pos c12] at H
                have c12b0 : decide (x6_1 < (l1.length : Int)) = true := decide_eq_true c12
                clear c12
                (first | rw [c12b0] | rw [c12b1] | (simp only [i64_w, i32_w]; rw [c12b0]) | skip)
                by_cases c13 : 0 ≤ x6_1
                · rw [if_pos c13] at H
                  have c13b0 : decide (0 ≤ x6_1) = true := decide_eq_true c13
                  clear c13
                  by_cases c14 : (l0.length : Int) = 0
                  · rw [if_pos c14] at H
                    exact absurd H (by simp)
                  · rw [if_neg c14] at H
                    have c14b0 : ((l0.length : Int) == 0) = false := beq_eq_false_iff_ne.mpr c14
                    have c14b1 : ((l0.length : Int) != 0) = true := bne_iff_ne.mpr c14
                    have c14b2 : ¬ (l0 = []) := fun h_ => c14 (by rw [h_]; rfl)
                    by_cases c15 : (Int.tmod (rd l1 x6_1) (l0.length : Int)) < 0
                    · rw [if_pos c15] at H
                      have c15b0 : decide ((Int.tmod (rd l1 x6_1) (l0.length : Int)) < 0) = true := decide_eq_true c15
                      clear c15
                      have H' := Aside0.mk H
                      clear H
                      have p150 : 0 ≤ (x6_1 : Int) := of_decide_eq_true (by first | (with_reducible assumption) | assumption)
                      have q150 : x6_1 < (l1.length : Int) := of_decide_eq_true (by first | (with_reducible assumption) | assumption)
                      obtain ⟨ad150, e150, hx150_0⟩ := Kd.at_int HR1.out x6_1 p150 q150
                      cases e150
                      replace hx150_0 := (HB.out.cell (World.block_lt_of_cell? w _ hx150_0)).trans hx150_0
                      replace p150 := eq_true p150
                      replace q150 := eq_true q150
                      go_wp2
                      go_meet
                      case rel => exact ⟨_, (wrap64 ((Int.tmod (rd l1 x6_1) (l0.length : Int)) + (l0.length : Int))), (by first | rfl | (simp; done) | (simp [*]; done)), H', ⟨by have := HK1.out; have := HJ3.out; first | omega | exact Nat.le_refl _⟩, ⟨by (with_reducible repeat (first | apply Kd.R_alloc | apply Kd.R_drewN | apply Kd.R_drew)); exact HO_5.out⟩, ⟨by repeat (first | (with_reducible first | exact HB.out | apply below_alloc | apply pw_below_drewN | apply below_drew1) | exact HB.out)⟩⟩
                    · rw [if_neg c15] at H
                      have c15b0 : decide ((Int.tmod (rd l1 x6_1) (l0.length : Int)) < 0) = false := decide_eq_false c15
                      clear c15
                      have H' := Aside0.mk H
                      clear H
                      have p150 : 0 ≤ (x6_1 : Int) := of_decide_eq_true (by first | (with_reducible assumption) | assumption)
                      have q150 : x6_1 < (l1.length : Int) := of_decide_eq_true (by first | (with_reducible assumption) | assumption)
                      obtain ⟨ad150, e150, hx150_0⟩ := Kd.at_int HR1.out x6_1 p150 q150
                      cases e150
                      replace hx150_0 := (HB.out.cell (World.block_lt_of_cell? w _ hx150_0)).trans hx150_0
                      replace p150 := eq_true p150
                      replace q150 := eq_true q150
                      go_wp2
                      go_meet
                      case rel => exact ⟨_, (Int.tmod (rd l1 x6_1) (l0.length : Int)), (by first | rfl | (simp; done) | (simp [*]; done)), H', ⟨by have := HK1.out; have := HJ3.out; first | omega | exact Nat.le_refl _⟩, ⟨by (with_reducible repeat (first | apply Kd.R_alloc | apply Kd.R_drewN | apply Kd.R_drew)); exact HO_5.out⟩, ⟨by repeat (first | (with_reducible first | exact HB.out | apply below_alloc | apply pw_below_drewN | apply below_drew1) | exact HB.out)⟩⟩
                · rw [if_neg c13] at H
                  exact absurd H (by simp)
              · rw [if_neg c12] at H
                have c12b0 : decide (x6_1 < (l1.length : Int)) = false := decide_eq_false c12
                clear c12
                (first | rw [c12b0] | rw [c12b1] | (simp only [i64_w, i32_w]; rw [c12b0]) | skip)
                have H' := Aside0.mk H
                clear H
                go_wp2
                go_meet
                case rel => exact ⟨_, (x7_3), (by first | rfl | (simp; done) | (simp [*]; done)), H', ⟨by have := HK1.out; have := HJ3.out; first | omega | exact Nat.le_refl _⟩, ⟨by (with_reducible repeat (first | apply Kd.R_alloc | apply Kd.R_drewN | apply Kd.R_drew)); exact HO_5.out⟩, ⟨by repeat (first | (with_reducible first | exact HB.out | apply below_alloc | apply pw_below_drewN | apply below_drew1) | exact HB.out)⟩⟩
            case rest =>
              clear HC11
              try clear c1
              try clear p1
              try clear q1
              try clear hx1
              try clear p2
              try clear c3
              try clear c3b0
              try clear c3b1
              try clear c6
              try clear c6b0
              try clear c6b1
              try clear p6
              try clear c8
              try clear c8b0
              try clear c9
              try clear c9b0
              try clear c10
              try clear c10b0
              try clear c10b1
              try clear c10b2
              try clear c12
              try clear c12b0
              try clear c13
              try clear c13b0
              try clear c14
              try clear c14b0
              try clear c14b1
              try clear c14b2
              try clear p14
              try clear q14
              try clear hx14
              try clear c15
              try clear c15b0
              try clear p15
              try clear q15
              try clear hx15
              try clear hx149_0
              try clear hx149_1
              try clear hx150_0
              try clear p1
              try clear p149
              try clear p150
              try clear p2
              try clear p6
              try clear q1
              try clear q149
              try clear q150
              obtain ⟨kq, x7_10, rfl, HA, HJ10, HO_5, HB⟩ := hcut
              cases kq with
              | zero => exact absurd HA.out (by simp [gatepostref22_Order.j2])
              | succ kj10 =>
                have H := HA.out
                clear HA
                simp only [gatepostref22_Order.j2] at H
                have H' := Aside0.mk H
                clear H
                go_wp2
                go_loopg [8] kj10 (fun kq v8 w' => ∃ (x8_4 : Int), v8 = .int .i64 x8_4 ∧ Aside0 (gatepostref22_Order.l1 kq l0 l1 x5_1 x6_1 x7_10 x8_4 = some r) ∧ Aside0 (kq ≤ kj10) ∧ Aside0 (Kd.R k41 41 w' w.heap.size (fun _ => True) (.slice Ao5 x5_1.length co5) x5_1) ∧ Aside0 (Below w.heap.size w w'))
                case atStart => exact ⟨(0), (by first | rfl | (simp; done) | (simp [*]; done)), H', ⟨Nat.le_refl _⟩, ⟨by (with_reducible repeat (first | apply Kd.R_alloc | apply Kd.R_drewN | apply Kd.R_drew)); exact HO_5.out⟩, ⟨by repeat (first | (with_reducible first | exact HB.out | apply below_alloc | apply pw_below_drewN | apply below_drew1) | exact HB.out)⟩⟩
                case round =>
                  clear H'
                  try clear c1
                  try clear p1
                  try clear q1
                  try clear hx1
                  try clear p2
                  try clear c3
                  try clear c3b0
                  try clear c3b1
                  try clear c6
                  try clear c6b0
                  try clear c6b1
                  try clear p6
                  try clear c8
                  try clear c8b0
                  try clear c9
                  try clear c9b0
                  try clear c10
                  try clear c10b0
                  try clear c10b1
                  try clear c10b2
                  try clear c12
                  try clear c12b0
                  try clear c13
                  try clear c13b0
                  try clear c14
                  try clear c14b0
                  try clear c14b1
                  try clear c14b2
                  try clear p14
                  try clear q14
                  try clear hx14
                  try clear c15
                  try clear c15b0
                  try clear p15
                  try clear q15
                  try clear hx15
                  try clear hx149_0
                  try clear hx149_1
                  try clear hx150_0
                  try clear p1
                  try clear p14
                  try clear p149
                  try clear p15
                  try clear p150
                  try clear p2
                  try clear p6
                  try clear q1
                  try clear q14
                  try clear q149
                  try clear q15
                  try clear q150
                  obtain ⟨x8_4, rfl, HA, HK4, HO_5, HB⟩ := hrel
                  cases gk with
                  | zero => exact absurd HA.out (by simp [gatepostref22_Order.l1])
                  | succ k4 =>
                    have H := HA.out
                    clear HA
                    simp only [gatepostref22_Order.l1] at H
                    by_cases c16 : x8_4 < (l0.length : Int)
                    · rw [if_pos c16] at H
                      have c16b0 : decide (x8_4 < (l0.length : Int)) = true := decide_eq_true c16
                      clear c16
                      by_cases c17 : (l0.length : Int) = 0
                      · rw [if_pos c17] at H
                        exact absurd H (by simp)
                      · rw [if_neg c17] at H
                        have c17b0 : ((l0.length : Int) == 0) = false := beq_eq_false_iff_ne.mpr c17
                        have c17b1 : ((l0.length : Int) != 0) = true := bne_iff_ne.mpr c17
                        have c17b2 : ¬ (l0 = []) := fun h_ => c17 (by rw [h_]; rfl)
                        replace H := Option.bind_eq_some_iff.mp H
                        obtain ⟨t151, A180, H⟩ := H
                        replace H : (if t151 = true then (if x8_4 = (l0.length : Int) then (some x5_1) else ((gatepostref22_at.f k4 x5_1 (Int.tmod (wrap64 (x7_10 + x8_4)) (l0.length : Int))).bind fun t152 => (if x5_1.length < 8796093022208 then (gatepostref22_Order.l0 k4 l0 l1 (x5_1 ++ [(⟨Int.tmod (wrap64 (x7_10 + x8_4)) (l0.length : Int), t152⟩ : S41)]) (wrap64 (x6_1 + 1))) else (none)))) else (gatepostref22_Order.l1 k4 l0 l1 x5_1 x6_1 x7_10 (wrap64 (x8_4 + 1)))) = some r := H
                        have A18 := Aside0.mk A180
                        clear A180
                        by_cases c19 : t151 = true
                        · subst c19
                          have H1 : (if x8_4 = (l0.length : Int) then (some x5_1) else ((gatepostref22_at.f k4 x5_1 (Int.tmod (wrap64 (x7_10 + x8_4)) (l0.length : Int))).bind fun t152 => (if x5_1.length < 8796093022208 then (gatepostref22_Order.l0 k4 l0 l1 (x5_1 ++ [(⟨Int.tmod (wrap64 (x7_10 + x8_4)) (l0.length : Int), t152⟩ : S41)]) (wrap64 (x6_1 + 1))) else (none)))) = some r := by rw [if_pos rfl] at H; exact H
                          clear H
                          have H := H1
                          clear H1
                          by_cases c20 : x8_4 = (l0.length : Int)
                          · rw [if_pos c20] at H
                            have c20b0 : (x8_4 == (l0.length : Int)) = true := beq_iff_eq.mpr c20
                            have c20b1 : (x8_4 != (l0.length : Int)) = false := bne_eq_false_iff_eq.mpr c20
                            clear c20
                            obtain rfl := Option.some.inj H
                            go_wp2_with (first | (go_at_call 20; (with_reducible refine (gatepostref22_can.calls k4 _ _ l0 _ _ x5_1 (Int.tmod (wrap64 (x7_10 + x8_4)) (l0.length : Int)) true _ ?side1 ?side2 ?side3 ?side4 A18.out).mono ?_); (case side1 => repeat (first | exact (Kd.C_below HR0.out HB.out) | (with_reducible refine Kd.C_alloc ?_ _) | (with_reducible refine Kd.C_drewN ?_ _) | (with_reducible refine Kd.C_drew ?_))); (case side2 => exact HC0.out); (case side3 => repeat (first | exact (Kd.R_reads' HO_5.out).2.2 | (with_reducible refine Kd.C_alloc ?_ _) | (with_reducible refine Kd.C_drewN ?_ _) | (with_reducible refine Kd.C_drew ?_))); (case side4 => exact (Kd.R_reads' HO_5.out).2.1); rintro e w' ⟨rfl, ⟨nd, rfl⟩⟩))
                            go_ret
                            exact ⟨_, by first | rfl | (simp [errW_none, errW_some] <;> rfl) | (simp [*, errW_none, errW_some] <;> rfl), by (with_reducible repeat (first | apply Kd.R_alloc | apply Kd.R_drewN | apply Kd.R_drew)); exact HO_5.out, by repeat (first | (with_reducible first | exact HB.out | apply below_alloc | apply pw_below_drewN | apply below_drew1) | exact HB.out)⟩
                          · rw [if_neg c20] at H
                            have c20b0 : (x8_4 == (l0.length : Int)) = false := beq_eq_false_iff_ne.mpr c20
                            have c20b1 : (x8_4 != (l0.length : Int)) = true := bne_iff_ne.mpr c20
                            replace H := Option.bind_eq_some_iff.mp H
                            obtain ⟨t152, A210, H⟩ := H
                            replace H : (if x5_1.length < 8796093022208 then (gatepostref22_Order.l0 k4 l0 l1 (x5_1 ++ [(⟨Int.tmod (wrap64 (x7_10 + x8_4)) (l0.length : Int), t152⟩ : S41)]) (wrap64 (x6_1 + 1))) else (none)) = some r := H
                            have A21 := Aside0.mk A210
                            clear A210
                            by_cases c22 : x5_1.length < 8796093022208
                            · rw [if_pos c22] at H
                              have LMc22 := Aside0.mk c22
                              clear c22
                              obtain ⟨y153, hy153⟩ : ∃ y_ : List (S41), y_ = (x5_1 ++ [(⟨Int.tmod (wrap64 (x7_10 + x8_4)) (l0.length : Int), t152⟩ : S41)]) := ⟨_, rfl⟩
                              replace H : (gatepostref22_Order.l0 k4 l0 l1 y153 (wrap64 (x6_1 + 1))) = some r := by first | (rw [hy153]; with_reducible exact H) | (have H2_ := (Option.bind_some _ _).symm.trans H; rw [hy153]; with_reducible exact H2_) | (have H2_ := (Option.bind_some _ _).symm.trans H; with_reducible exact H2_) | with_reducible exact H | (rw [hy153]; exact H) | exact H
                              have Ny153 := Aside0.mk hy153
                              clear hy153
                              have H' := Aside0.mk H
                              clear H
                              go_wp2_with (first | (go_at_call 20; (with_reducible refine (gatepostref22_can.calls k4 _ _ l0 _ _ x5_1 (Int.tmod (wrap64 (x7_10 + x8_4)) (l0.length : Int)) true _ ?side1 ?side2 ?side3 ?side4 A18.out).mono ?_); (case side1 => repeat (first | exact (Kd.C_below HR0.out HB.out) | (with_reducible refine Kd.C_alloc ?_ _) | (with_reducible refine Kd.C_drewN ?_ _) | (with_reducible refine Kd.C_drew ?_))); (case side2 => exact HC0.out); (case side3 => repeat (first | exact (Kd.R_reads' HO_5.out).2.2 | (with_reducible refine Kd.C_alloc ?_ _) | (with_reducible refine Kd.C_drewN ?_ _) | (with_reducible refine Kd.C_drew ?_))); (case side4 => exact (Kd.R_reads' HO_5.out).2.1); rintro e w' ⟨rfl, ⟨nd, rfl⟩⟩) | ((with_reducible refine gate_callee (f := 21) rfl ?_); refine goesL_ (some 79) rfl rfl Try.func21 (by kernel_rfl) rfl #[.slice Ao5 x5_1.length co5, .int .i64 (Int.tmod (wrap64 (x7_10 + x8_4)) (l0.length : Int))] rfl (by (try simp only [List.map_toArray, List.map_cons, List.map_nil]); first | done | rfl | (simp only [List.length_drop, List.length_take]; rfl)) ?_; (with_reducible refine (gatepostref22_at.calls k4 _ _ x5_1 (Int.tmod (wrap64 (x7_10 + x8_4)) (l0.length : Int)) t152 _ ?side1 ?side2 A21.out).mono ?_); (case side1 => repeat (first | exact (Kd.R_reads' HO_5.out).2.2 | (with_reducible refine Kd.C_alloc ?_ _) | (with_reducible refine Kd.C_drewN ?_ _) | (with_reducible refine Kd.C_drew ?_))); (case side2 => exact (Kd.R_reads' HO_5.out).2.1); rintro e w' ⟨rfl, ⟨nd, rfl⟩⟩; refine ⟨_, rfl, ?_⟩) | ((with_reducible refine gate_builtin (b := .append) (xs := #[.tmp 75, .tmp 81]) rfl ?_); (try (refine gate_guard (by rfl) ?_; dsimp only)); at_builtin; refine Kd.R_append k41 (w0 := w) w.heap.size rfl (.tmp 75) (.tmp 81) 29 41 (.agg #[(.int .i64 0), (.int .i64 0)]) 16 rfl Try.underlying29 info41 rfl (by decide) (by omega) (.slice Ao5 x5_1.length co5) x5_1 (⟨Int.tmod (wrap64 (x7_10 + x8_4)) (l0.length : Int), t152⟩ : S41) [.int .i64 (Int.tmod (wrap64 (x7_10 + x8_4)) (l0.length : Int)), .int .i64 t152] (fun _ => True) (fun _ => False) rfl rfl ?aP (fun _ hk => hk.elim) ?aF ?aO ?aB ?aS ?aL ?_; (case aP => exact k41_mkM _ _ _ (⟨Int.tmod (wrap64 (x7_10 + x8_4)) (l0.length : Int), t152⟩ : S41)); (case aB => exact (by repeat (first | (with_reducible first | exact HB.out | apply below_alloc | apply pw_below_drewN | apply below_drew1) | exact HB.out))); (case aF => exact (fun _ _ => trivial)); (case aO => exact (by (with_reducible repeat (first | apply Kd.R_alloc | apply Kd.R_drewN | apply Kd.R_drew)); exact HO_5.out)); (case aS => exact (below_size (by repeat (first | (with_reducible first | exact HB.out | apply below_alloc | apply pw_below_drewN | apply below_drew1) | exact HB.out)))); (case aL => have := LMc22.out; omega); intro v154 w23 ho hb hg hat; rw [← Ny153.out] at ho; have n0_ := Aside0.mk (hb); have n1_ := Aside0.mk (ho); clear HB; clear HO_5; have HB := n0_; have HO155 := n1_; clear n0_ n1_; clear ho hb hg hat))
                              go_roundg k4
                              case measure => have := HK1.out; have := HJ3.out; have := HJ10.out; have := HK4.out; omega
                              case rel => exact ⟨(y153), (wrap64 (x6_1 + 1)), (by first | rfl | (simp; done) | (simp [*]; done)), H', ⟨by have := HK1.out; have := HJ3.out; have := HJ10.out; have := HK4.out; omega⟩, ⟨by (with_reducible repeat (first | apply Kd.R_alloc | apply Kd.R_drewN | apply Kd.R_drew)); exact HO155.out⟩, ⟨by repeat (first | (with_reducible first | exact HB.out | apply below_alloc | apply pw_below_drewN | apply below_drew1) | exact HB.out)⟩⟩
                            · rw [if_neg c22] at H
                              exact absurd H (by simp)
                        · replace c19 := Bool.eq_false_iff.mpr c19
                          subst c19
                          have H1 : (gatepostref22_Order.l1 k4 l0 l1 x5_1 x6_1 x7_10 (wrap64 (x8_4 + 1))) = some r := by rw [if_neg (show ¬ (false = true) by decide)] at H; exact H
                          clear H
                          have H := H1
                          clear H1
                          have H' := Aside0.mk H
                          clear H
                          go_wp2_with (first | (go_at_call 20; (with_reducible refine (gatepostref22_can.calls k4 _ _ l0 _ _ x5_1 (Int.tmod (wrap64 (x7_10 + x8_4)) (l0.length : Int)) false _ ?side1 ?side2 ?side3 ?side4 A18.out).mono ?_); (case side1 => repeat (first | exact (Kd.C_below HR0.out HB.out) | (with_reducible refine Kd.C_alloc ?_ _) | (with_reducible refine Kd.C_drewN ?_ _) | (with_reducible refine Kd.C_drew ?_))); (case side2 => exact HC0.out); (case side3 => repeat (first | exact (Kd.R_reads' HO_5.out).2.2 | (with_reducible refine Kd.C_alloc ?_ _) | (with_reducible refine Kd.C_drewN ?_ _) | (with_reducible refine Kd.C_drew ?_))); (case side4 => exact (Kd.R_reads' HO_5.out).2.1); rintro e w' ⟨rfl, ⟨nd, rfl⟩⟩))
                          go_roundg k4
                          case measure => have := HK1.out; have := HJ3.out; have := HJ10.out; have := HK4.out; omega
                          case rel => exact ⟨(wrap64 (x8_4 + 1)), (by first | rfl | (simp; done) | (simp [*]; done)), H', ⟨by have := HK1.out; have := HJ3.out; have := HJ10.out; have := HK4.out; omega⟩, ⟨by (with_reducible repeat (first | apply Kd.R_alloc | apply Kd.R_drewN | apply Kd.R_drew)); exact HO_5.out⟩, ⟨by repeat (first | (with_reducible first | exact HB.out | apply below_alloc | apply pw_below_drewN | apply below_drew1) | exact HB.out)⟩⟩
                    · rw [if_neg c16] at H
                      have c16b0 : decide (x8_4 < (l0.length : Int)) = false := decide_eq_false c16
                      clear c16
                      by_cases c24 : x8_4 = (l0.length : Int)
                      · rw [if_pos c24] at H
                        have c24b0 : (x8_4 == (l0.length : Int)) = true := beq_iff_eq.mpr c24
                        have c24b1 : (x8_4 != (l0.length : Int)) = false := bne_eq_false_iff_eq.mpr c24
                        clear c24
                        obtain rfl := Option.some.inj H
                        go_wp2
                        go_ret
                        exact ⟨_, by first | rfl | (simp [errW_none, errW_some] <;> rfl) | (simp [*, errW_none, errW_some] <;> rfl), by (with_reducible repeat (first | apply Kd.R_alloc | apply Kd.R_drewN | apply Kd.R_drew)); exact HO_5.out, by repeat (first | (with_reducible first | exact HB.out | apply below_alloc | apply pw_below_drewN | apply below_drew1) | exact HB.out)⟩
                      · rw [if_neg c24] at H
                        have c24b0 : (x8_4 == (l0.length : Int)) = false := beq_eq_false_iff_ne.mpr c24
                        have c24b1 : (x8_4 != (l0.length : Int)) = true := bne_iff_ne.mpr c24
                        by_cases c25 : (l0.length : Int) = 0
                        · rw [if_pos c25] at H
                          exact absurd H (by simp)
                        · rw [if_neg c25] at H
                          have c25b0 : ((l0.length : Int) == 0) = false := beq_eq_false_iff_ne.mpr c25
                          have c25b1 : ((l0.length : Int) != 0) = true := bne_iff_ne.mpr c25
                          have c25b2 : ¬ (l0 = []) := fun h_ => c25 (by rw [h_]; rfl)
                          replace H := Option.bind_eq_some_iff.mp H
                          obtain ⟨t156, A260, H⟩ := H
                          replace H : (if x5_1.length < 8796093022208 then (gatepostref22_Order.l0 k4 l0 l1 (x5_1 ++ [(⟨Int.tmod (wrap64 (x7_10 + x8_4)) (l0.length : Int), t156⟩ : S41)]) (wrap64 (x6_1 + 1))) else (none)) = some r := H
                          have A26 := Aside0.mk A260
                          clear A260
                          by_cases c27 : x5_1.length < 8796093022208
                          · rw [if_pos c27] at H
                            have LMc27 := Aside0.mk c27
                            clear c27
                            obtain ⟨y157, hy157⟩ : ∃ y_ : List (S41), y_ = (x5_1 ++ [(⟨Int.tmod (wrap64 (x7_10 + x8_4)) (l0.length : Int), t156⟩ : S41)]) := ⟨_, rfl⟩
                            replace H : (gatepostref22_Order.l0 k4 l0 l1 y157 (wrap64 (x6_1 + 1))) = some r := by first | (rw [hy157]; with_reducible exact H) | (have H2_ := (Option.bind_some _ _).symm.trans H; rw [hy157]; with_reducible exact H2_) | (have H2_ := (Option.bind_some _ _).symm.trans H; with_reducible exact H2_) | with_reducible exact H | (rw [hy157]; exact H) | exact H
                            have Ny157 := Aside0.mk hy157
                            clear hy157
                            have H' := Aside0.mk H
                            clear H
                            go_wp2_with (first | ((with_reducible refine gate_callee (f := 21) rfl ?_); refine goesL_ (some 79) rfl rfl Try.func21 (by kernel_rfl) rfl #[.slice Ao5 x5_1.length co5, .int .i64 (Int.tmod (wrap64 (x7_10 + x8_4)) (l0.length : Int))] rfl (by (try simp only [List.map_toArray, List.map_cons, List.map_nil]); first | done | rfl | (simp only [List.length_drop, List.length_take]; rfl)) ?_; (with_reducible refine (gatepostref22_at.calls k4 _ _ x5_1 (Int.tmod (wrap64 (x7_10 + x8_4)) (l0.length : Int)) t156 _ ?side1 ?side2 A26.out).mono ?_); (case side1 => repeat (first | exact (Kd.R_reads' HO_5.out).2.2 | (with_reducible refine Kd.C_alloc ?_ _) | (with_reducible refine Kd.C_drewN ?_ _) | (with_reducible refine Kd.C_drew ?_))); (case side2 => exact (Kd.R_reads' HO_5.out).2.1); rintro e w' ⟨rfl, ⟨nd, rfl⟩⟩; refine ⟨_, rfl, ?_⟩) | ((with_reducible refine gate_builtin (b := .append) (xs := #[.tmp 75, .tmp 81]) rfl ?_); (try (refine gate_guard (by rfl) ?_; dsimp only)); at_builtin; refine Kd.R_append k41 (w0 := w) w.heap.size rfl (.tmp 75) (.tmp 81) 29 41 (.agg #[(.int .i64 0), (.int .i64 0)]) 16 rfl Try.underlying29 info41 rfl (by decide) (by omega) (.slice Ao5 x5_1.length co5) x5_1 (⟨Int.tmod (wrap64 (x7_10 + x8_4)) (l0.length : Int), t156⟩ : S41) [.int .i64 (Int.tmod (wrap64 (x7_10 + x8_4)) (l0.length : Int)), .int .i64 t156] (fun _ => True) (fun _ => False) rfl rfl ?aP (fun _ hk => hk.elim) ?aF ?aO ?aB ?aS ?aL ?_; (case aP => exact k41_mkM _ _ _ (⟨Int.tmod (wrap64 (x7_10 + x8_4)) (l0.length : Int), t156⟩ : S41)); (case aB => exact (by repeat (first | (with_reducible first | exact HB.out | apply below_alloc | apply pw_below_drewN | apply below_drew1) | exact HB.out))); (case aF => exact (fun _ _ => trivial)); (case aO => exact (by (with_reducible repeat (first | apply Kd.R_alloc | apply Kd.R_drewN | apply Kd.R_drew)); exact HO_5.out)); (case aS => exact (below_size (by repeat (first | (with_reducible first | exact HB.out | apply below_alloc | apply pw_below_drewN | apply below_drew1) | exact HB.out)))); (case aL => have := LMc27.out; omega); intro v158 w28 ho hb hg hat; rw [← Ny157.out] at ho; have n0_ := Aside0.mk (hb); have n1_ := Aside0.mk (ho); clear HB; clear HO_5; have HB := n0_; have HO159 := n1_; clear n0_ n1_; clear ho hb hg hat))
                            go_roundg k4
                            case measure => have := HK1.out; have := HJ3.out; have := HJ10.out; have := HK4.out; omega
                            case rel => exact ⟨(y157), (wrap64 (x6_1 + 1)), (by first | rfl | (simp; done) | (simp [*]; done)), H', ⟨by have := HK1.out; have := HJ3.out; have := HJ10.out; have := HK4.out; omega⟩, ⟨by (with_reducible repeat (first | apply Kd.R_alloc | apply Kd.R_drewN | apply Kd.R_drew)); exact HO159.out⟩, ⟨by repeat (first | (with_reducible first | exact HB.out | apply below_alloc | apply pw_below_drewN | apply below_drew1) | exact HB.out)⟩⟩
                          · rw [if_neg c27] at H
                            exact absurd H (by simp)
      · rw [if_neg c3] at H
        have c3b0 : decide (0 < (l0.length : Int)) = false := decide_eq_false c3
        have c3b1 : decide (0 < l0.length) = false := decide_eq_false (by omega)
        clear c3
        obtain rfl := Option.some.inj H
        go_wp2
        go_ret
        exact ⟨_, by first | rfl | (simp [errW_none, errW_some] <;> rfl) | (simp [*, errW_none, errW_some] <;> rfl), by (with_reducible repeat (first | apply Kd.R_alloc | apply Kd.R_drewN | apply Kd.R_drew)); exact HO_5.out, by repeat (first | (with_reducible first | exact HB.out | apply below_alloc | apply pw_below_drewN | apply below_drew1) | exact HB.out)⟩

end Go.Proofs.Ytglafngeeggeeaa.PSch
