/- Proved here: that functions of the program come to what plain Lean functions say, and (where it stands) the row of a law. No condition beyond that of the rows. Laid by a program of this session (wip/printgiven.py) out of the print of the translation. -/
import Derived.Test.YtglafngeeggeeaaPSchx0
import Derived.Test.YtglafngeeggeeaaPSchx2
import Derived.Test.YtglafngeeggeeaaOrder
namespace Go.Proofs.Ytglafngeeggeeaa.PSch
open Go.RowKit Go.Proofs.YtglafngeeggeeaaW.PrintWords Go.Proofs.YtglafngeeggeeaaW.PrintLast Go.Proofs.YtglafngeeggeeaaW.PrintMore
attribute [local go_sem] max2_int min2_int max_two min_two max_three min_three max_four min_four   -- for this text's walks alone
set_option linter.unusedVariables false
set_option linter.unusedSimpArgs false

/-! ### gatepostlaw22_SchedTurns: function 5 -/
mutual
def gatepostlaw22_SchedTurns.j0 : Nat → List (List Int) → List Int → Bool → Bool → Option (Bool)
  | 0, _, _, _, _ => none
  | k + 1, x0, x1, x5, x18 => if x18 = true then (some x5) else ((sched_Order.f x0 x1).bind fun t203 => (if 0 ≤ (x0.length : Int) then (if ((x0.length : Int) : Int).toNat ≤ 35184372088832 then (gatepostlaw22_SchedTurns.l0 k x0 x5 t203 (List.replicate ((x0.length : Int) : Int).toNat 0) 0) else (none)) else (none)))
def gatepostlaw22_SchedTurns.l0 : Nat → List (List Int) → Bool → List (S37) → List Int → Int → Option (Bool)
  | 0, _, _, _, _, _ => none
  | k + 1, x0, x5, x6, x7, x8 => if x8 < (x6.length : Int) then (if 0 ≤ x8 then (if ((rd_T37 x6 x8).f0) < 0 then (some false) else (if ((rd_T37 x6 x8).f0) ≥ (x0.length : Int) then (some false) else (if 0 ≤ ((rd_T37 x6 x8).f0) then (if ((rd_T37 x6 x8).f0) < (x7.length : Int) then (if ((rd_T37 x6 x8).f1) = (rd x7 ((rd_T37 x6 x8).f0)) then (if ((rd_T37 x6 x8).f0) < (x0.length : Int) then (if (rd x7 ((rd_T37 x6 x8).f0)) ≥ ((rd_L1 x0 ((rd_T37 x6 x8).f0)).length : Int) then (some false) else (gatepostlaw22_SchedTurns.l0 k x0 x5 x6 (x7.set (((rd_T37 x6 x8).f0) : Int).toNat (wrap64 ((rd x7 ((rd_T37 x6 x8).f0)) + 1))) (wrap64 (x8 + 1)))) else (none)) else (some false)) else (none)) else (none)))) else (none)) else (if x5 = true then ((sched_May.f k x0).bind fun t216 => (if t216 = true then ((sched_Steps.f k x0).bind fun t217 => (some ((x6.length : Int) == t217))) else (some true))) else (some false))
end
def gatepostlaw22_SchedTurns.f (k : Nat) (l0 : List (List Int)) (l1 : List Int) : Option (Bool) := (gatepostlaw22_awake.f k).bind fun t201 => ((gatepostref22_Few.f k l0).bind fun t202 => (if t202 = true then (gatepostlaw22_SchedTurns.j0 k l0 l1 t201 (decide ((l1.length : Int) > 100))) else (gatepostlaw22_SchedTurns.j0 k l0 l1 t201 true)))
theorem gatepostlaw22_SchedTurns.mono_l : ∀ k, (∀ y0 y1 y2 y3, LeO (gatepostlaw22_SchedTurns.j0 k y0 y1 y2 y3) (gatepostlaw22_SchedTurns.j0 (k + 1) y0 y1 y2 y3)) ∧ (∀ y0 y1 y2 y3 y4, LeO (gatepostlaw22_SchedTurns.l0 k y0 y1 y2 y3 y4) (gatepostlaw22_SchedTurns.l0 (k + 1) y0 y1 y2 y3 y4))
  | 0 => ⟨fun _ _ _ _ r h => by simp [gatepostlaw22_SchedTurns.j0] at h, fun _ _ _ _ _ r h => by simp [gatepostlaw22_SchedTurns.l0] at h⟩
  | k + 1 => by
    obtain ⟨ih0, ih1⟩ := gatepostlaw22_SchedTurns.mono_l k
    refine ⟨?_, ?_⟩
    · intro y0 y1 y2 y3
      unfold gatepostlaw22_SchedTurns.j0
      repeat' first
      | (with_reducible exact ih0 _ _ _ _)
      | (with_reducible exact ih1 _ _ _ _ _)
      | (with_reducible exact gatepostlaw22_awake.mono _)
      | (with_reducible exact gatepostref22_Few.mono _ _)
      | (with_reducible exact sched_May.mono _ _)
      | (with_reducible exact sched_Steps.mono _ _)
      | (with_reducible exact LeO.refl _)
      | (with_reducible exact LeO.none _)
      | (with_reducible refine LeO.ite ?_ ?_)
      | (with_reducible refine LeO.bind ?_ (fun _ => ?_))
      | exact ih0 _ _ _ _
      | exact ih1 _ _ _ _ _
      | exact gatepostlaw22_awake.mono _
      | exact gatepostref22_Few.mono _ _
      | exact sched_May.mono _ _
      | exact sched_Steps.mono _ _
      | exact LeO.none _
      | refine LeO.ite ?_ ?_
      | refine LeO.bind ?_ (fun _ => ?_)
    · intro y0 y1 y2 y3 y4
      unfold gatepostlaw22_SchedTurns.l0
      repeat' first
      | (with_reducible exact ih0 _ _ _ _)
      | (with_reducible exact ih1 _ _ _ _ _)
      | (with_reducible exact gatepostlaw22_awake.mono _)
      | (with_reducible exact gatepostref22_Few.mono _ _)
      | (with_reducible exact sched_May.mono _ _)
      | (with_reducible exact sched_Steps.mono _ _)
      | (with_reducible exact LeO.refl _)
      | (with_reducible exact LeO.none _)
      | (with_reducible refine LeO.ite ?_ ?_)
      | (with_reducible refine LeO.bind ?_ (fun _ => ?_))
      | exact ih0 _ _ _ _
      | exact ih1 _ _ _ _ _
      | exact gatepostlaw22_awake.mono _
      | exact gatepostref22_Few.mono _ _
      | exact sched_May.mono _ _
      | exact sched_Steps.mono _ _
      | exact LeO.none _
      | refine LeO.ite ?_ ?_
      | refine LeO.bind ?_ (fun _ => ?_)
theorem gatepostlaw22_SchedTurns.mono : ∀ a0 a1 k, LeO (gatepostlaw22_SchedTurns.f k a0 a1) (gatepostlaw22_SchedTurns.f (k + 1) a0 a1) := by
  intro a0 a1 k
  obtain ⟨ih0, ih1⟩ := gatepostlaw22_SchedTurns.mono_l k
  unfold gatepostlaw22_SchedTurns.f
  repeat' first
      | (with_reducible exact ih0 _ _ _ _)
      | (with_reducible exact ih1 _ _ _ _ _)
      | (with_reducible exact gatepostlaw22_awake.mono _)
      | (with_reducible exact gatepostref22_Few.mono _ _)
      | (with_reducible exact sched_May.mono _ _)
      | (with_reducible exact sched_Steps.mono _ _)
      | (with_reducible exact LeO.refl _)
      | (with_reducible exact LeO.none _)
      | (with_reducible refine LeO.ite ?_ ?_)
      | (with_reducible refine LeO.bind ?_ (fun _ => ?_))
      | exact ih0 _ _ _ _
      | exact ih1 _ _ _ _ _
      | exact gatepostlaw22_awake.mono _
      | exact gatepostref22_Few.mono _ _
      | exact sched_May.mono _ _
      | exact sched_Steps.mono _ _
      | exact LeO.none _
      | refine LeO.ite ?_ ?_
      | refine LeO.bind ?_ (fun _ => ?_)
set_option maxHeartbeats 8000000 in
set_option maxRecDepth 100000 in
theorem gatepostlaw22_SchedTurns.calls (k : Nat) (A0 : Option Addr) (c0 : Nat) (l0 : List (List Int)) (A1 : Option Addr) (c1 : Nat) (l1 : List Int) (r : Bool) (w : World) (hr0 : Kd.C (Kd.slice 3 (Kd.int .i64)) w A0 l0.length l0) (hc0 : l0.length ≤ c0) (hr1 : Kd.C (Kd.int .i64) w A1 l1.length l1) (hc1 : l1.length ≤ c1) (h : gatepostlaw22_SchedTurns.f k l0 l1 = some r) :
    Calls Try.prog 5 #[.slice A0 l0.length c0, .slice A1 l1.length c1] w fun e w' => e = .returned (.bool r) ∧ Below w.heap.size w w' := by
  have HR0 := Aside0.mk hr0
  have HC0 := Aside0.mk hc0
  clear hr0 hc0
  have HR1 := Aside0.mk hr1
  have HC1 := Aside0.mk hc1
  clear hr1 hc1
  have HB := Aside0.mk (Below.refl w.heap.size w)
  have H : ((gatepostlaw22_awake.f k).bind fun t201 => ((gatepostref22_Few.f k l0).bind fun t202 => (if t202 = true then (gatepostlaw22_SchedTurns.j0 k l0 l1 t201 (decide ((l1.length : Int) > 100))) else (gatepostlaw22_SchedTurns.j0 k l0 l1 t201 true)))) = some r := h
  clear h
  replace H := Option.bind_eq_some_iff.mp H
  obtain ⟨t201, A30, H⟩ := H
  replace H : ((gatepostref22_Few.f k l0).bind fun t202 => (if t202 = true then (gatepostlaw22_SchedTurns.j0 k l0 l1 t201 (decide ((l1.length : Int) > 100))) else (gatepostlaw22_SchedTurns.j0 k l0 l1 t201 true))) = some r := H
  have A3 := Aside0.mk A30
  clear A30
  have HC4 := Aside0.mk H
  clear H
  go_enter Try.func5, Try.ntmps5
  go_upto_region 2 with (first | (go_at_call 8; (with_reducible refine (gatepostlaw22_awake.calls k  t201 _ A3.out).mono ?_); rintro e w5 ⟨rfl, hb⟩; have n0_ := Aside0.mk (below_step (by repeat (first | (with_reducible first | exact HB.out | apply below_alloc | apply pw_below_drewN | apply below_drew1) | exact HB.out)) hb); clear HB; have HB := n0_; clear n0_; (try clear hb); (try clear hb2); (try clear hk); (try clear hi)))
  repeat (go_quiet (first | (go_at_call 8; (with_reducible refine (gatepostlaw22_awake.calls k  t201 _ A3.out).mono ?_); rintro e w5 ⟨rfl, hb⟩; have n0_ := Aside0.mk (below_step (by repeat (first | (with_reducible first | exact HB.out | apply below_alloc | apply pw_below_drewN | apply below_drew1) | exact HB.out)) hb); clear HB; have HB := n0_; clear n0_; (try clear hb); (try clear hb2); (try clear hk); (try clear hi))); go_upto_region 2 with (first | (go_at_call 8; (with_reducible refine (gatepostlaw22_awake.calls k  t201 _ A3.out).mono ?_); rintro e w5 ⟨rfl, hb⟩; have n0_ := Aside0.mk (below_step (by repeat (first | (with_reducible first | exact HB.out | apply below_alloc | apply pw_below_drewN | apply below_drew1) | exact HB.out)) hb); clear HB; have HB := n0_; clear n0_; (try clear hb); (try clear hb2); (try clear hk); (try clear hi))))
  (try simp only [Act.put, List.setIfInBounds_toArray, List.set_cons_zero, List.set_cons_succ])
  go_cut [18] (fun v18 wc => ∃ (kq : Nat) (x18_3 : Bool), v18 = .bool x18_3 ∧ Aside0 (gatepostlaw22_SchedTurns.j0 kq l0 l1 t201 x18_3 = some r) ∧ Aside0 (kq ≤ k) ∧ Aside0 (Below w.heap.size w wc))
  case first =>
    have H := HC4.out
    clear HC4
    replace H := Option.bind_eq_some_iff.mp H
    obtain ⟨t202, A60, H⟩ := H
    replace H : (if t202 = true then (gatepostlaw22_SchedTurns.j0 k l0 l1 t201 (decide ((l1.length : Int) > 100))) else (gatepostlaw22_SchedTurns.j0 k l0 l1 t201 true)) = some r := H
    have A6 := Aside0.mk A60
    clear A60
    by_cases c7 : t202 = true
    · subst c7
      have H1 : (gatepostlaw22_SchedTurns.j0 k l0 l1 t201 (decide ((l1.length : Int) > 100))) = some r := by rw [if_pos rfl] at H; exact H
      clear H
      have H := H1
      clear H1
      have H' := Aside0.mk H
      clear H
      go_wp2_with (first | (go_at_call 9; (with_reducible refine (gatepostref22_Few.calls k _ _ l0 true _ ?side1 ?side2 A6.out).mono ?_); (case side1 => repeat (first | exact (Kd.C_below HR0.out HB.out) | (with_reducible refine Kd.C_alloc ?_ _) | (with_reducible refine Kd.C_drewN ?_ _) | (with_reducible refine Kd.C_drew ?_))); (case side2 => exact HC0.out); rintro e w' ⟨rfl, ⟨nd, rfl⟩⟩; (try first | exact ⟨rfl, _, World.drewN_drewN _ _ _⟩ | exact ⟨rfl, _, Eq.trans (World.drewN_drewN _ _ _) (congrArg (World.drewN _) (Nat.add_assoc _ _ _))⟩)))
      repeat (go_quiet (first | (go_at_call 9; (with_reducible refine (gatepostref22_Few.calls k _ _ l0 true _ ?side1 ?side2 A6.out).mono ?_); (case side1 => repeat (first | exact (Kd.C_below HR0.out HB.out) | (with_reducible refine Kd.C_alloc ?_ _) | (with_reducible refine Kd.C_drewN ?_ _) | (with_reducible refine Kd.C_drew ?_))); (case side2 => exact HC0.out); rintro e w' ⟨rfl, ⟨nd, rfl⟩⟩; (try first | exact ⟨rfl, _, World.drewN_drewN _ _ _⟩ | exact ⟨rfl, _, Eq.trans (World.drewN_drewN _ _ _) (congrArg (World.drewN _) (Nat.add_assoc _ _ _))⟩))); try go_wp2_with (first | (go_at_call 9; (with_reducible refine (gatepostref22_Few.calls k _ _ l0 true _ ?side1 ?side2 A6.out).mono ?_); (case side1 => repeat (first | exact (Kd.C_below HR0.out HB.out) | (with_reducible refine Kd.C_alloc ?_ _) | (with_reducible refine Kd.C_drewN ?_ _) | (with_reducible refine Kd.C_drew ?_))); (case side2 => exact HC0.out); rintro e w' ⟨rfl, ⟨nd, rfl⟩⟩; (try first | exact ⟨rfl, _, World.drewN_drewN _ _ _⟩ | exact ⟨rfl, _, Eq.trans (World.drewN_drewN _ _ _) (congrArg (World.drewN _) (Nat.add_assoc _ _ _))⟩))))
      go_meet
      case rel => exact ⟨_, (decide ((l1.length : Int) > 100)), (by first | rfl | (simp; done) | (simp [*]; done)), H', ⟨by first | omega | exact Nat.le_refl _⟩, ⟨by repeat (first | (with_reducible first | exact HB.out | apply below_alloc | apply pw_below_drewN | apply below_drew1) | exact HB.out)⟩⟩
    · replace c7 := Bool.eq_false_iff.mpr c7
      subst c7
      have H1 : (gatepostlaw22_SchedTurns.j0 k l0 l1 t201 true) = some r := by rw [if_neg (show ¬ (false = true) by decide)] at H; exact H
      clear H
      have H := H1
      clear H1
      have H' := Aside0.mk H
      clear H
      go_wp2_with (first | (go_at_call 9; (with_reducible refine (gatepostref22_Few.calls k _ _ l0 false _ ?side1 ?side2 A6.out).mono ?_); (case side1 => repeat (first | exact (Kd.C_below HR0.out HB.out) | (with_reducible refine Kd.C_alloc ?_ _) | (with_reducible refine Kd.C_drewN ?_ _) | (with_reducible refine Kd.C_drew ?_))); (case side2 => exact HC0.out); rintro e w' ⟨rfl, ⟨nd, rfl⟩⟩; (try first | exact ⟨rfl, _, World.drewN_drewN _ _ _⟩ | exact ⟨rfl, _, Eq.trans (World.drewN_drewN _ _ _) (congrArg (World.drewN _) (Nat.add_assoc _ _ _))⟩)))
      repeat (go_quiet (first | (go_at_call 9; (with_reducible refine (gatepostref22_Few.calls k _ _ l0 false _ ?side1 ?side2 A6.out).mono ?_); (case side1 => repeat (first | exact (Kd.C_below HR0.out HB.out) | (with_reducible refine Kd.C_alloc ?_ _) | (with_reducible refine Kd.C_drewN ?_ _) | (with_reducible refine Kd.C_drew ?_))); (case side2 => exact HC0.out); rintro e w' ⟨rfl, ⟨nd, rfl⟩⟩; (try first | exact ⟨rfl, _, World.drewN_drewN _ _ _⟩ | exact ⟨rfl, _, Eq.trans (World.drewN_drewN _ _ _) (congrArg (World.drewN _) (Nat.add_assoc _ _ _))⟩))); try go_wp2_with (first | (go_at_call 9; (with_reducible refine (gatepostref22_Few.calls k _ _ l0 false _ ?side1 ?side2 A6.out).mono ?_); (case side1 => repeat (first | exact (Kd.C_below HR0.out HB.out) | (with_reducible refine Kd.C_alloc ?_ _) | (with_reducible refine Kd.C_drewN ?_ _) | (with_reducible refine Kd.C_drew ?_))); (case side2 => exact HC0.out); rintro e w' ⟨rfl, ⟨nd, rfl⟩⟩; (try first | exact ⟨rfl, _, World.drewN_drewN _ _ _⟩ | exact ⟨rfl, _, Eq.trans (World.drewN_drewN _ _ _) (congrArg (World.drewN _) (Nat.add_assoc _ _ _))⟩))))
      go_meet
      case rel => exact ⟨_, (true), (by first | rfl | (simp; done) | (simp [*]; done)), H', ⟨by first | omega | exact Nat.le_refl _⟩, ⟨by repeat (first | (with_reducible first | exact HB.out | apply below_alloc | apply pw_below_drewN | apply below_drew1) | exact HB.out)⟩⟩
  case rest =>
    clear HC4
    try clear c1
    try clear p2
    try clear c5
    try clear c7
    obtain ⟨kq, x18_3, rfl, HA, HJ3, HB⟩ := hcut
    cases kq with
    | zero => exact absurd HA.out (by simp [gatepostlaw22_SchedTurns.j0])
    | succ kj3 =>
      have H := HA.out
      clear HA
      simp only [gatepostlaw22_SchedTurns.j0] at H
      by_cases c8 : x18_3 = true
      · subst c8
        have H1 : (some t201) = some r := by rw [if_pos rfl] at H; exact H
        clear H
        have H := H1
        clear H1
        obtain rfl := Option.some.inj H
        go_wp2
        repeat (go_quiet (fail); try go_wp2)
        go_ret
        exact ⟨by first | rfl | (simp [errW_none, errW_some] <;> rfl) | (simp [*, errW_none, errW_some] <;> rfl), by repeat (first | (with_reducible first | exact HB.out | apply below_alloc | apply pw_below_drewN | apply below_drew1) | exact HB.out)⟩
      · replace c8 := Bool.eq_false_iff.mpr c8
        subst c8
        have H1 : ((sched_Order.f l0 l1).bind fun t203 => (if 0 ≤ (l0.length : Int) then (if ((l0.length : Int) : Int).toNat ≤ 35184372088832 then (gatepostlaw22_SchedTurns.l0 kj3 l0 t201 t203 (List.replicate ((l0.length : Int) : Int).toNat 0) 0) else (none)) else (none))) = some r := by rw [if_neg (show ¬ (false = true) by decide)] at H; exact H
        clear H
        have H := H1
        clear H1
        replace H := Option.bind_eq_some_iff.mp H
        obtain ⟨t203, A90, H⟩ := H
        replace H : (if 0 ≤ (l0.length : Int) then (if ((l0.length : Int) : Int).toNat ≤ 35184372088832 then (gatepostlaw22_SchedTurns.l0 kj3 l0 t201 t203 (List.replicate ((l0.length : Int) : Int).toNat 0) 0) else (none)) else (none)) = some r := H
        have A9 := Aside0.mk A90
        clear A90
        by_cases c10 : 0 ≤ (l0.length : Int)
        · rw [if_pos c10] at H
          have c10b0 := eq_true c10
          have c10b1 : decide (0 ≤ (l0.length : Int)) = true := decide_eq_true c10
          clear c10
          by_cases c11 : ((l0.length : Int) : Int).toNat ≤ 35184372088832
          · rw [if_pos c11] at H
            have c11b0 := eq_true c11
            have c11b1 : decide (((l0.length : Int) : Int).toNat ≤ 35184372088832) = true := decide_eq_true c11
            clear c11
            obtain ⟨y206, hy206⟩ : ∃ y_ : List Int, y_ = (List.replicate ((l0.length : Int) : Int).toNat 0) := ⟨_, rfl⟩
            replace H : (gatepostlaw22_SchedTurns.l0 kj3 l0 t201 t203 y206 0) = some r := by first | (rw [hy206]; with_reducible exact H) | (have H2_ := (Option.bind_some _ _).symm.trans H; rw [hy206]; with_reducible exact H2_) | (have H2_ := (Option.bind_some _ _).symm.trans H; with_reducible exact H2_) | with_reducible exact H | (rw [hy206]; exact H) | exact H
            have Ny206 := Aside0.mk hy206
            clear hy206
            have H' := Aside0.mk H
            clear H
            go_wp2_with (first | (go_at_call 11; (with_reducible refine (sched_Order.calls _ _ l0 _ _ l1 t203 _ ?side1 ?side2 ?side3 ?side4 A9.out).mono ?_); (case side1 => repeat (first | exact (Kd.C_below HR0.out HB.out) | (with_reducible refine Kd.C_alloc ?_ _) | (with_reducible refine Kd.C_drewN ?_ _) | (with_reducible refine Kd.C_drew ?_))); (case side2 => exact HC0.out); (case side3 => repeat (first | exact (Kd.C_below HR1.out HB.out) | (with_reducible refine Kd.C_alloc ?_ _) | (with_reducible refine Kd.C_drewN ?_ _) | (with_reducible refine Kd.C_drew ?_))); (case side4 => exact HC1.out); rintro e w12 ⟨v204, rfl, ho0, hb⟩; have n0_ := Aside0.mk (Kd.R_lower ho0 (below_size (by repeat (first | (with_reducible first | exact HB.out | apply below_alloc | apply pw_below_drewN | apply below_drew1) | exact HB.out)))); have n1_ := Aside0.mk (below_step (by repeat (first | (with_reducible first | exact HB.out | apply below_alloc | apply pw_below_drewN | apply below_drew1) | exact HB.out)) hb); clear HB; have HO205 := n0_; have HB := n1_; clear n0_ n1_; (try clear hb); (try clear hb2); (try clear hk); (try clear hi); (try clear ho0)) | ((with_reducible refine gate_dst (N := 25) rfl ?_); (try (refine gate_guard (by rfl) ?_; dsimp only)); refine Kd.R_make (Kd.int .i64) _ 3 rfl (N := 25) rfl 23 _ _ rfl (l0.length : Int) rfl rfl Try.underlying23 (.int .i64 0) 8 info3 rfl (by decide) (by omega) 0 (ok := fun _ => True) (okp := fun _ => True) rfl (fun _ hk => hk) trivial (of_decide_eq_true (by first | (with_reducible assumption) | assumption)) (Nat.le_trans (Nat.mul_le_mul_right _ (of_decide_eq_true (by first | (with_reducible assumption) | assumption) : (l0.length : Int).toNat ≤ 35184372088832)) (by omega)) (Below.refl _ _) (Nat.le_refl _) ?_; intro v207 w13 ho14 hb hg_ hnew_; clear hg_ hnew_; (first | rw [← Ny206.out] at ho14 | (simp only [Int.reduceToNat] at ho14; rw [← Ny206.out] at ho14)); have n0_ := Aside0.mk (Kd.R_below (by (with_reducible repeat (first | apply Kd.R_alloc | apply Kd.R_drewN | apply Kd.R_drew)); exact HO205.out) hb); have n1_ := Aside0.mk (Kd.R_lower ho14 (below_size (by repeat (first | (with_reducible first | exact HB.out | apply below_alloc | apply pw_below_drewN | apply below_drew1) | exact HB.out)))); have n2_ := Aside0.mk (below_step (by repeat (first | (with_reducible first | exact HB.out | apply below_alloc | apply pw_below_drewN | apply below_drew1) | exact HB.out)) hb); clear HO205; clear HB; have HO205 := n0_; have HO208 := n1_; have HB := n2_; clear n0_ n1_ n2_; clear hb ho14))
            repeat (go_quiet (first | (go_at_call 11; (with_reducible refine (sched_Order.calls _ _ l0 _ _ l1 t203 _ ?side1 ?side2 ?side3 ?side4 A9.out).mono ?_); (case side1 => repeat (first | exact (Kd.C_below HR0.out HB.out) | (with_reducible refine Kd.C_alloc ?_ _) | (with_reducible refine Kd.C_drewN ?_ _) | (with_reducible refine Kd.C_drew ?_))); (case side2 => exact HC0.out); (case side3 => repeat (first | exact (Kd.C_below HR1.out HB.out) | (with_reducible refine Kd.C_alloc ?_ _) | (with_reducible refine Kd.C_drewN ?_ _) | (with_reducible refine Kd.C_drew ?_))); (case side4 => exact HC1.out); rintro e w12 ⟨v204, rfl, ho0, hb⟩; have n0_ := Aside0.mk (Kd.R_lower ho0 (below_size (by repeat (first | (with_reducible first | exact HB.out | apply below_alloc | apply pw_below_drewN | apply below_drew1) | exact HB.out)))); have n1_ := Aside0.mk (below_step (by repeat (first | (with_reducible first | exact HB.out | apply below_alloc | apply pw_below_drewN | apply below_drew1) | exact HB.out)) hb); clear HB; have HO205 := n0_; have HB := n1_; clear n0_ n1_; (try clear hb); (try clear hb2); (try clear hk); (try clear hi); (try clear ho0)) | ((with_reducible refine gate_dst (N := 25) rfl ?_); (try (refine gate_guard (by rfl) ?_; dsimp only)); refine Kd.R_make (Kd.int .i64) _ 3 rfl (N := 25) rfl 23 _ _ rfl (l0.length : Int) rfl rfl Try.underlying23 (.int .i64 0) 8 info3 rfl (by decide) (by omega) 0 (ok := fun _ => True) (okp := fun _ => True) rfl (fun _ hk => hk) trivial (of_decide_eq_true (by first | (with_reducible assumption) | assumption)) (Nat.le_trans (Nat.mul_le_mul_right _ (of_decide_eq_true (by first | (with_reducible assumption) | assumption) : (l0.length : Int).toNat ≤ 35184372088832)) (by omega)) (Below.refl _ _) (Nat.le_refl _) ?_; intro v207 w13 ho14 hb hg_ hnew_; clear hg_ hnew_; (first | rw [← Ny206.out] at ho14 | (simp only [Int.reduceToNat] at ho14; rw [← Ny206.out] at ho14)); have n0_ := Aside0.mk (Kd.R_below (by (with_reducible repeat (first | apply Kd.R_alloc | apply Kd.R_drewN | apply Kd.R_drew)); exact HO205.out) hb); have n1_ := Aside0.mk (Kd.R_lower ho14 (below_size (by repeat (first | (with_reducible first | exact HB.out | apply below_alloc | apply pw_below_drewN | apply below_drew1) | exact HB.out)))); have n2_ := Aside0.mk (below_step (by repeat (first | (with_reducible first | exact HB.out | apply below_alloc | apply pw_below_drewN | apply below_drew1) | exact HB.out)) hb); clear HO205; clear HB; have HO205 := n0_; have HO208 := n1_; have HB := n2_; clear n0_ n1_ n2_; clear hb ho14)); try go_wp2_with (first | (go_at_call 11; (with_reducible refine (sched_Order.calls _ _ l0 _ _ l1 t203 _ ?side1 ?side2 ?side3 ?side4 A9.out).mono ?_); (case side1 => repeat (first | exact (Kd.C_below HR0.out HB.out) | (with_reducible refine Kd.C_alloc ?_ _) | (with_reducible refine Kd.C_drewN ?_ _) | (with_reducible refine Kd.C_drew ?_))); (case side2 => exact HC0.out); (case side3 => repeat (first | exact (Kd.C_below HR1.out HB.out) | (with_reducible refine Kd.C_alloc ?_ _) | (with_reducible refine Kd.C_drewN ?_ _) | (with_reducible refine Kd.C_drew ?_))); (case side4 => exact HC1.out); rintro e w12 ⟨v204, rfl, ho0, hb⟩; have n0_ := Aside0.mk (Kd.R_lower ho0 (below_size (by repeat (first | (with_reducible first | exact HB.out | apply below_alloc | apply pw_below_drewN | apply below_drew1) | exact HB.out)))); have n1_ := Aside0.mk (below_step (by repeat (first | (with_reducible first | exact HB.out | apply below_alloc | apply pw_below_drewN | apply below_drew1) | exact HB.out)) hb); clear HB; have HO205 := n0_; have HB := n1_; clear n0_ n1_; (try clear hb); (try clear hb2); (try clear hk); (try clear hi); (try clear ho0)) | ((with_reducible refine gate_dst (N := 25) rfl ?_); (try (refine gate_guard (by rfl) ?_; dsimp only)); refine Kd.R_make (Kd.int .i64) _ 3 rfl (N := 25) rfl 23 _ _ rfl (l0.length : Int) rfl rfl Try.underlying23 (.int .i64 0) 8 info3 rfl (by decide) (by omega) 0 (ok := fun _ => True) (okp := fun _ => True) rfl (fun _ hk => hk) trivial (of_decide_eq_true (by first | (with_reducible assumption) | assumption)) (Nat.le_trans (Nat.mul_le_mul_right _ (of_decide_eq_true (by first | (with_reducible assumption) | assumption) : (l0.length : Int).toNat ≤ 35184372088832)) (by omega)) (Below.refl _ _) (Nat.le_refl _) ?_; intro v207 w13 ho14 hb hg_ hnew_; clear hg_ hnew_; (first | rw [← Ny206.out] at ho14 | (simp only [Int.reduceToNat] at ho14; rw [← Ny206.out] at ho14)); have n0_ := Aside0.mk (Kd.R_below (by (with_reducible repeat (first | apply Kd.R_alloc | apply Kd.R_drewN | apply Kd.R_drew)); exact HO205.out) hb); have n1_ := Aside0.mk (Kd.R_lower ho14 (below_size (by repeat (first | (with_reducible first | exact HB.out | apply below_alloc | apply pw_below_drewN | apply below_drew1) | exact HB.out)))); have n2_ := Aside0.mk (below_step (by repeat (first | (with_reducible first | exact HB.out | apply below_alloc | apply pw_below_drewN | apply below_drew1) | exact HB.out)) hb); clear HO205; clear HB; have HO205 := n0_; have HO208 := n1_; have HB := n2_; clear n0_ n1_ n2_; clear hb ho14)))
            go_loopg [8] kj3 (fun kq v8 w' => ∃ (x7_2 : List Int) (x8_2 : Int), v8 = .int .i64 x8_2 ∧ Aside0 (gatepostlaw22_SchedTurns.l0 kq l0 t201 t203 x7_2 x8_2 = some r) ∧ Aside0 (kq ≤ kj3) ∧ Aside0 (Kd.R k37 37 w' w.heap.size (fun _ => True) v204 t203) ∧ Aside0 (Kd.R (Kd.int .i64) 3 w' w.heap.size (fun _ => True) v207 x7_2) ∧ Aside0 (Below w.heap.size w w'))
            case atStart => exact ⟨(y206), (0), (by first | rfl | (simp; done) | (simp [*]; done)), H', ⟨Nat.le_refl _⟩, ⟨by (with_reducible repeat (first | apply Kd.R_alloc | apply Kd.R_drewN | apply Kd.R_drew)); exact HO205.out⟩, ⟨by (with_reducible repeat (first | apply Kd.R_alloc | apply Kd.R_drewN | apply Kd.R_drew)); exact HO208.out⟩, ⟨by repeat (first | (with_reducible first | exact HB.out | apply below_alloc | apply pw_below_drewN | apply below_drew1) | exact HB.out)⟩⟩
            case round =>
              clear H'
              try clear c1
              try clear p2
              try clear c5
              try clear c7
              try clear c8
              try clear c10
              try clear c10b0
              try clear c10b1
              try clear c11
              try clear c11b0
              try clear c11b1
              try clear p2
              obtain ⟨x7_2, x8_2, rfl, HA, HK2, HO_6, HO_7, HB⟩ := hrel
              cases gk with
              | zero => exact absurd HA.out (by simp [gatepostlaw22_SchedTurns.l0])
              | succ k2 =>
                have H := HA.out
                clear HA
                simp only [gatepostlaw22_SchedTurns.l0] at H
                by_cases c15 : x8_2 < (t203.length : Int)
                · rw [if_pos c15] at H
                  have c15b0 : decide (x8_2 < (t203.length : Int)) = true := decide_eq_true c15
                  clear c15
                  by_cases c16 : 0 ≤ x8_2
                  · rw [if_pos c16] at H
                    have c16b0 : decide (0 ≤ x8_2) = true := decide_eq_true c16
                    clear c16
                    by_cases c17 : ((rd_T37 t203 x8_2).f0) < 0
                    · rw [if_pos c17] at H
                      have c17b0 : decide (((rd_T37 t203 x8_2).f0) < 0) = true := decide_eq_true c17
                      clear c17
                      obtain rfl := Option.some.inj H
                      obtain ⟨Ao18, co18, eo18⟩ := Kd.R_slice HO_6.out
                      subst eo18
                      have p209 : 0 ≤ (x8_2 : Int) := of_decide_eq_true (by first | (with_reducible assumption) | assumption)
                      have q209 : x8_2 < (t203.length : Int) := of_decide_eq_true (by first | (with_reducible assumption) | assumption)
                      obtain ⟨ad209, e209, hx209_0, hx209_1⟩ := at_T37 (Kd.R_reads' HO_6.out).2.2 x8_2 p209 q209
                      cases e209
                      replace p209 := eq_true p209
                      replace q209 := eq_true q209
                      go_wp2
                      repeat (go_quiet (fail); try go_wp2)
                      go_ret
                      exact ⟨by first | rfl | (simp [errW_none, errW_some] <;> rfl) | (simp [*, errW_none, errW_some] <;> rfl), by repeat (first | (with_reducible first | exact HB.out | apply below_alloc | apply pw_below_drewN | apply below_drew1) | exact HB.out)⟩
                    · rw [if_neg c17] at H
                      have c17b0 : decide (((rd_T37 t203 x8_2).f0) < 0) = false := decide_eq_false c17
                      clear c17
                      by_cases c19 : ((rd_T37 t203 x8_2).f0) ≥ (l0.length : Int)
                      · rw [if_pos c19] at H
                        have c19b0 : decide ((l0.length : Int) ≤ ((rd_T37 t203 x8_2).f0)) = true := decide_eq_true c19
                        clear c19
                        obtain rfl := Option.some.inj H
                        obtain ⟨Ao20, co20, eo20⟩ := Kd.R_slice HO_6.out
                        subst eo20
                        have p209 : 0 ≤ (x8_2 : Int) := of_decide_eq_true (by first | (with_reducible assumption) | assumption)
                        have q209 : x8_2 < (t203.length : Int) := of_decide_eq_true (by first | (with_reducible assumption) | assumption)
                        obtain ⟨ad209, e209, hx209_0, hx209_1⟩ := at_T37 (Kd.R_reads' HO_6.out).2.2 x8_2 p209 q209
                        cases e209
                        replace p209 := eq_true p209
                        replace q209 := eq_true q209
                        go_wp2
                        repeat (go_quiet (fail); try go_wp2)
                        go_ret
                        exact ⟨by first | rfl | (simp [errW_none, errW_some] <;> rfl) | (simp [*, errW_none, errW_some] <;> rfl), by repeat (first | (with_reducible first | exact HB.out | apply below_alloc | apply pw_below_drewN | apply below_drew1) | exact HB.out)⟩
                      · rw [if_neg c19] at H
                        have c19b0 : decide ((l0.length : Int) ≤ ((rd_T37 t203 x8_2).f0)) = false := decide_eq_false c19
                        clear c19
                        by_cases c21 : 0 ≤ ((rd_T37 t203 x8_2).f0)
                        · rw [if_pos c21] at H
                          have c21b0 : decide (0 ≤ ((rd_T37 t203 x8_2).f0)) = true := decide_eq_true c21
                          clear c21
                          by_cases c22 : ((rd_T37 t203 x8_2).f0) < (x7_2.length : Int)
                          · rw [if_pos c22] at H
                            have c22b0 : decide (((rd_T37 t203 x8_2).f0) < (x7_2.length : Int)) = true := decide_eq_true c22
                            clear c22
                            by_cases c23 : ((rd_T37 t203 x8_2).f1) = (rd x7_2 ((rd_T37 t203 x8_2).f0))
                            · rw [if_pos c23] at H
                              have c23b0 : (((rd_T37 t203 x8_2).f1) == (rd x7_2 ((rd_T37 t203 x8_2).f0))) = true := beq_iff_eq.mpr c23
                              have c23b1 : (((rd_T37 t203 x8_2).f1) != (rd x7_2 ((rd_T37 t203 x8_2).f0))) = false := bne_eq_false_iff_eq.mpr c23
                              clear c23
                              by_cases c24 : ((rd_T37 t203 x8_2).f0) < (l0.length : Int)
                              · rw [if_pos c24] at H
                                have c24b0 : decide (((rd_T37 t203 x8_2).f0) < (l0.length : Int)) = true := decide_eq_true c24
                                clear c24
                                by_cases c25 : (rd x7_2 ((rd_T37 t203 x8_2).f0)) ≥ ((rd_L1 l0 ((rd_T37 t203 x8_2).f0)).length : Int)
                                · rw [if_pos c25] at H
                                  have c25b0 : decide (((rd_L1 l0 ((rd_T37 t203 x8_2).f0)).length : Int) ≤ (rd x7_2 ((rd_T37 t203 x8_2).f0))) = true := decide_eq_true c25
                                  clear c25
                                  obtain rfl := Option.some.inj H
                                  obtain ⟨Ao26, co26, eo26⟩ := Kd.R_slice HO_6.out
                                  subst eo26
                                  have p209 : 0 ≤ (x8_2 : Int) := of_decide_eq_true (by first | (with_reducible assumption) | assumption)
                                  have q209 : x8_2 < (t203.length : Int) := of_decide_eq_true (by first | (with_reducible assumption) | assumption)
                                  obtain ⟨ad209, e209, hx209_0, hx209_1⟩ := at_T37 (Kd.R_reads' HO_6.out).2.2 x8_2 p209 q209
                                  cases e209
                                  replace p209 := eq_true p209
                                  replace q209 := eq_true q209
                                  have p210 : 0 ≤ (x8_2 : Int) := of_decide_eq_true (by first | (with_reducible assumption) | assumption)
                                  have q210 : x8_2 < (t203.length : Int) := of_decide_eq_true (by first | (with_reducible assumption) | assumption)
                                  obtain ⟨ad210, e210, hx210_0, hx210_1⟩ := at_T37 (Kd.R_reads' HO_6.out).2.2 x8_2 p210 q210
                                  obtain rfl : ad209 = ad210 := (by injection e210)
                                  replace p210 := eq_true p210
                                  replace q210 := eq_true q210
                                  obtain ⟨Ao27, co27, eo27⟩ := Kd.R_slice HO_7.out
                                  subst eo27
                                  have p211 : 0 ≤ (((rd_T37 t203 x8_2).f0) : Int) := of_decide_eq_true (by first | (with_reducible assumption) | assumption)
                                  have q211 : ((rd_T37 t203 x8_2).f0) < (x7_2.length : Int) := of_decide_eq_true (by first | (with_reducible assumption) | assumption)
                                  obtain ⟨ad211, e211, hx211_0⟩ := Kd.at_int (Kd.R_reads' HO_7.out).2.2 ((rd_T37 t203 x8_2).f0) p211 q211
                                  cases e211
                                  replace p211 := eq_true p211
                                  replace q211 := eq_true q211
                                  have p212 : 0 ≤ (((rd_T37 t203 x8_2).f0) : Int) := of_decide_eq_true (by first | (with_reducible assumption) | assumption)
                                  have q212 : ((rd_T37 t203 x8_2).f0) < (x7_2.length : Int) := of_decide_eq_true (by first | (with_reducible assumption) | assumption)
                                  obtain ⟨ad212, e212, hx212_0⟩ := Kd.at_int (Kd.R_reads' HO_7.out).2.2 ((rd_T37 t203 x8_2).f0) p212 q212
                                  obtain rfl : ad211 = ad212 := (by injection e212)
                                  replace p212 := eq_true p212
                                  replace q212 := eq_true q212
                                  have p213 : 0 ≤ (((rd_T37 t203 x8_2).f0) : Int) := of_decide_eq_true (by first | (with_reducible assumption) | assumption)
                                  have q213 : ((rd_T37 t203 x8_2).f0) < (l0.length : Int) := of_decide_eq_true (by first | (with_reducible assumption) | assumption)
                                  obtain ⟨ad213, A213_0, c213_0, e213, hx213_0, hl213_0, hi213_0⟩ := at_L1 HR0.out ((rd_T37 t203 x8_2).f0) p213 q213
                                  cases e213
                                  replace hx213_0 := (HB.out.cell (World.block_lt_of_cell? w _ hx213_0)).trans hx213_0
                                  have HR213_0 := Aside0.mk hi213_0
                                  have HC213_0 := Aside0.mk hl213_0
                                  clear hi213_0 hl213_0
                                  replace p213 := eq_true p213
                                  replace q213 := eq_true q213
                                  go_wp2
                                  repeat (go_quiet (fail); try go_wp2)
                                  go_ret
                                  exact ⟨by first | rfl | (simp [errW_none, errW_some] <;> rfl) | (simp [*, errW_none, errW_some] <;> rfl), by repeat (first | (with_reducible first | exact HB.out | apply below_alloc | apply pw_below_drewN | apply below_drew1) | exact HB.out)⟩
                                · rw [if_neg c25] at H
                                  have c25b0 : decide (((rd_L1 l0 ((rd_T37 t203 x8_2).f0)).length : Int) ≤ (rd x7_2 ((rd_T37 t203 x8_2).f0))) = false := decide_eq_false c25
                                  clear c25
                                  obtain ⟨y215, hy215⟩ : ∃ y_ : List Int, y_ = (x7_2.set (((rd_T37 t203 x8_2).f0) : Int).toNat (wrap64 ((rd x7_2 ((rd_T37 t203 x8_2).f0)) + 1))) := ⟨_, rfl⟩
                                  replace H : (gatepostlaw22_SchedTurns.l0 k2 l0 t201 t203 y215 (wrap64 (x8_2 + 1))) = some r := by first | (rw [hy215]; with_reducible exact H) | (have H2_ := (Option.bind_some _ _).symm.trans H; rw [hy215]; with_reducible exact H2_) | (have H2_ := (Option.bind_some _ _).symm.trans H; with_reducible exact H2_) | with_reducible exact H | (rw [hy215]; exact H) | exact H
                                  have Ny215 := Aside0.mk hy215
                                  clear hy215
                                  have H' := Aside0.mk H
                                  clear H
                                  obtain ⟨Ao29, co29, eo29⟩ := Kd.R_slice HO_6.out
                                  subst eo29
                                  have p209 : 0 ≤ (x8_2 : Int) := of_decide_eq_true (by first | (with_reducible assumption) | assumption)
                                  have q209 : x8_2 < (t203.length : Int) := of_decide_eq_true (by first | (with_reducible assumption) | assumption)
                                  obtain ⟨ad209, e209, hx209_0, hx209_1⟩ := at_T37 (Kd.R_reads' HO_6.out).2.2 x8_2 p209 q209
                                  cases e209
                                  replace p209 := eq_true p209
                                  replace q209 := eq_true q209
                                  have p210 : 0 ≤ (x8_2 : Int) := of_decide_eq_true (by first | (with_reducible assumption) | assumption)
                                  have q210 : x8_2 < (t203.length : Int) := of_decide_eq_true (by first | (with_reducible assumption) | assumption)
                                  obtain ⟨ad210, e210, hx210_0, hx210_1⟩ := at_T37 (Kd.R_reads' HO_6.out).2.2 x8_2 p210 q210
                                  obtain rfl : ad209 = ad210 := (by injection e210)
                                  replace p210 := eq_true p210
                                  replace q210 := eq_true q210
                                  obtain ⟨Ao30, co30, eo30⟩ := Kd.R_slice HO_7.out
                                  subst eo30
                                  have p211 : 0 ≤ (((rd_T37 t203 x8_2).f0) : Int) := of_decide_eq_true (by first | (with_reducible assumption) | assumption)
                                  have q211 : ((rd_T37 t203 x8_2).f0) < (x7_2.length : Int) := of_decide_eq_true (by first | (with_reducible assumption) | assumption)
                                  obtain ⟨ad211, e211, hx211_0⟩ := Kd.at_int (Kd.R_reads' HO_7.out).2.2 ((rd_T37 t203 x8_2).f0) p211 q211
                                  cases e211
                                  replace p211 := eq_true p211
                                  replace q211 := eq_true q211
                                  have p212 : 0 ≤ (((rd_T37 t203 x8_2).f0) : Int) := of_decide_eq_true (by first | (with_reducible assumption) | assumption)
                                  have q212 : ((rd_T37 t203 x8_2).f0) < (x7_2.length : Int) := of_decide_eq_true (by first | (with_reducible assumption) | assumption)
                                  obtain ⟨ad212, e212, hx212_0⟩ := Kd.at_int (Kd.R_reads' HO_7.out).2.2 ((rd_T37 t203 x8_2).f0) p212 q212
                                  obtain rfl : ad211 = ad212 := (by injection e212)
                                  replace p212 := eq_true p212
                                  replace q212 := eq_true q212
                                  have p213 : 0 ≤ (((rd_T37 t203 x8_2).f0) : Int) := of_decide_eq_true (by first | (with_reducible assumption) | assumption)
                                  have q213 : ((rd_T37 t203 x8_2).f0) < (l0.length : Int) := of_decide_eq_true (by first | (with_reducible assumption) | assumption)
                                  obtain ⟨ad213, A213_0, c213_0, e213, hx213_0, hl213_0, hi213_0⟩ := at_L1 HR0.out ((rd_T37 t203 x8_2).f0) p213 q213
                                  cases e213
                                  replace hx213_0 := (HB.out.cell (World.block_lt_of_cell? w _ hx213_0)).trans hx213_0
                                  have HR213_0 := Aside0.mk hi213_0
                                  have HC213_0 := Aside0.mk hl213_0
                                  clear hi213_0 hl213_0
                                  replace p213 := eq_true p213
                                  replace q213 := eq_true q213
                                  have p214 : 0 ≤ (((rd_T37 t203 x8_2).f0) : Int) := of_decide_eq_true (by first | (with_reducible assumption) | assumption)
                                  have q214 : ((rd_T37 t203 x8_2).f0) < (x7_2.length : Int) := of_decide_eq_true (by first | (with_reducible assumption) | assumption)
                                  obtain ⟨ad214, e214, hx214_0⟩ := Kd.at_int (Kd.R_reads' HO_7.out).2.2 ((rd_T37 t203 x8_2).f0) p214 q214
                                  obtain rfl : ad211 = ad214 := (by injection e214)
                                  replace p214 := eq_true p214
                                  replace q214 := eq_true q214
                                  have p28 : 0 ≤ (((rd_T37 t203 x8_2).f0) : Int) := of_decide_eq_true (by first | (with_reducible assumption) | assumption)
                                  have q28 : (((rd_T37 t203 x8_2).f0) : Int) < ((x7_2.length : Int) : Int) := of_decide_eq_true (by first | (with_reducible assumption) | assumption)
                                  obtain ⟨go28, co28, eo28, gb28, gl28, cl28, HG28⟩ := Kd.R_form HO_7.out (by omega)
                                  (first | cases eo28 | (injection eo28 with ea_ en_ ec_; (first | subst ea_ | (injection ea_ with ea_; subst ea_)); subst ec_; clear en_))
                                  have GB28 := Aside0.mk gb28
                                  have GG28 := Aside0.mk HG28
                                  clear gb28 gl28 HG28
                                  (first | simp only [add_plain] at hx211_0 | skip)
                                  (first | simp only [add_plain] at hx212_0 | skip)
                                  (first | simp only [add_plain] at hx214_0 | skip)
                                  obtain ⟨hx28_0, hf28_0⟩ := Kd.R_celln 0 HO_7.out (((rd_T37 t203 x8_2).f0) : Int) p28 q28
                                  replace p28 := eq_true p28
                                  replace q28 := eq_true q28
                                  have HP31 := Kd.R_putg HO_7.out (((rd_T37 t203 x8_2).f0) : Int) (wrap64 ((rd x7_2 ((rd_T37 t203 x8_2).f0)) + 1))
                                  go_wp2_with (first | ((with_reducible refine gate_store (t := 3) (p := 76) rfl ?_); (try (rw [drewN_self wr]; generalize hq_ : World.drewN wr _ = wr; have n0_ := Aside0.mk (Kd.R_at hq_ HO_6.out); have n1_ := Aside0.mk (Kd.R_at hq_ HO_7.out); have n2_ := Aside0.mk (below_at hq_ HB.out); clear hq_ HO_6 HO_7 HB; have HO_6 := n0_; have HO_7 := n1_; have HB := n2_; clear n0_ n1_ n2_; (try (have HP31 := Kd.R_putg HO_7.out (((rd_T37 t203 x8_2).f0) : Int) (wrap64 ((rd x7_2 ((rd_T37 t203 x8_2).f0)) + 1)))))); refine store_event (t := 3) (p := 76) (v := ?vo_w32) (w1 := (wr.setCell ⟨go28, (((rd_T37 t203 x8_2).f0) : Int).toNat, none⟩ (.int .i64 (wrap64 ((rd x7_2 ((rd_T37 t203 x8_2).f0)) + 1))))) ?hg ?ho ?hn ?hr ?_; (case ho => rfl); (case hg => rfl); (case hn => rfl); (case hr => first | (go_simp; done) | (go_simp; rfl)); intro w32 hw; have hg : wr.grownBy w32 (some go28) := (by rw [hw]; exact HP31.2); have hp_ : Kd.R (Kd.int .i64) 3 w32 w.heap.size (fun _ => True) (.slice (some ⟨go28, 0, none⟩) x7_2.length co30) y215 := (by rw [hw, Ny215.out]; exact HP31.1); clear HP31; have n0_ := Aside0.mk (Kd.R_over' (v := (.slice (some ⟨go28, 0, none⟩) x7_2.length co30)) (by (with_reducible repeat (first | apply Kd.R_alloc | apply Kd.R_drewN | apply Kd.R_drew)); exact HO_6.out) (Kd.R_typed HO_7.out) (by decide) hg); have n1_ := Aside0.mk (hp_); have n2_ := Aside0.mk ((by rw [hw]; exact below_set (HB.out) GB28.out : Below w.heap.size w w32)); clear HO_6; clear HO_7; clear HB; have HO_6 := n0_; have HO_7 := n1_; have HB := n2_; clear n0_ n1_ n2_; clear hg hw hp_))
                                  repeat (go_quiet (first | ((with_reducible refine gate_store (t := 3) (p := 76) rfl ?_); (try (rw [drewN_self wr]; generalize hq_ : World.drewN wr _ = wr; have n0_ := Aside0.mk (Kd.R_at hq_ HO_6.out); have n1_ := Aside0.mk (Kd.R_at hq_ HO_7.out); have n2_ := Aside0.mk (below_at hq_ HB.out); clear hq_ HO_6 HO_7 HB; have HO_6 := n0_; have HO_7 := n1_; have HB := n2_; clear n0_ n1_ n2_; (try (have HP31 := Kd.R_putg HO_7.out (((rd_T37 t203 x8_2).f0) : Int) (wrap64 ((rd x7_2 ((rd_T37 t203 x8_2).f0)) + 1)))))); refine store_event (t := 3) (p := 76) (v := ?vo_w32) (w1 := (wr.setCell ⟨go28, (((rd_T37 t203 x8_2).f0) : Int).toNat, none⟩ (.int .i64 (wrap64 ((rd x7_2 ((rd_T37 t203 x8_2).f0)) + 1))))) ?hg ?ho ?hn ?hr ?_; (case ho => rfl); (case hg => rfl); (case hn => rfl); (case hr => first | (go_simp; done) | (go_simp; rfl)); intro w32 hw; have hg : wr.grownBy w32 (some go28) := (by rw [hw]; exact HP31.2); have hp_ : Kd.R (Kd.int .i64) 3 w32 w.heap.size (fun _ => True) (.slice (some ⟨go28, 0, none⟩) x7_2.length co30) y215 := (by rw [hw, Ny215.out]; exact HP31.1); clear HP31; have n0_ := Aside0.mk (Kd.R_over' (v := (.slice (some ⟨go28, 0, none⟩) x7_2.length co30)) (by (with_reducible repeat (first | apply Kd.R_alloc | apply Kd.R_drewN | apply Kd.R_drew)); exact HO_6.out) (Kd.R_typed HO_7.out) (by decide) hg); have n1_ := Aside0.mk (hp_); have n2_ := Aside0.mk ((by rw [hw]; exact below_set (HB.out) GB28.out : Below w.heap.size w w32)); clear HO_6; clear HO_7; clear HB; have HO_6 := n0_; have HO_7 := n1_; have HB := n2_; clear n0_ n1_ n2_; clear hg hw hp_)); try go_wp2_with (first | ((with_reducible refine gate_store (t := 3) (p := 76) rfl ?_); (try (rw [drewN_self wr]; generalize hq_ : World.drewN wr _ = wr; have n0_ := Aside0.mk (Kd.R_at hq_ HO_6.out); have n1_ := Aside0.mk (Kd.R_at hq_ HO_7.out); have n2_ := Aside0.mk (below_at hq_ HB.out); clear hq_ HO_6 HO_7 HB; have HO_6 := n0_; have HO_7 := n1_; have HB := n2_; clear n0_ n1_ n2_; (try (have HP31 := Kd.R_putg HO_7.out (((rd_T37 t203 x8_2).f0) : Int) (wrap64 ((rd x7_2 ((rd_T37 t203 x8_2).f0)) + 1)))))); refine store_event (t := 3) (p := 76) (v := ?vo_w32) (w1 := (wr.setCell ⟨go28, (((rd_T37 t203 x8_2).f0) : Int).toNat, none⟩ (.int .i64 (wrap64 ((rd x7_2 ((rd_T37 t203 x8_2).f0)) + 1))))) ?hg ?ho ?hn ?hr ?_; (case ho => rfl); (case hg => rfl); (case hn => rfl); (case hr => first | (go_simp; done) | (go_simp; rfl)); intro w32 hw; have hg : wr.grownBy w32 (some go28) := (by rw [hw]; exact HP31.2); have hp_ : Kd.R (Kd.int .i64) 3 w32 w.heap.size (fun _ => True) (.slice (some ⟨go28, 0, none⟩) x7_2.length co30) y215 := (by rw [hw, Ny215.out]; exact HP31.1); clear HP31; have n0_ := Aside0.mk (Kd.R_over' (v := (.slice (some ⟨go28, 0, none⟩) x7_2.length co30)) (by (with_reducible repeat (first | apply Kd.R_alloc | apply Kd.R_drewN | apply Kd.R_drew)); exact HO_6.out) (Kd.R_typed HO_7.out) (by decide) hg); have n1_ := Aside0.mk (hp_); have n2_ := Aside0.mk ((by rw [hw]; exact below_set (HB.out) GB28.out : Below w.heap.size w w32)); clear HO_6; clear HO_7; clear HB; have HO_6 := n0_; have HO_7 := n1_; have HB := n2_; clear n0_ n1_ n2_; clear hg hw hp_)))
                                  go_roundg k2
                                  case measure => have := HJ3.out; have := HK2.out; omega
                                  case rel => exact ⟨(y215), (wrap64 (x8_2 + 1)), (by first | rfl | (simp; done) | (simp [*]; done)), H', ⟨by have := HJ3.out; have := HK2.out; omega⟩, ⟨by first | ((with_reducible repeat (first | apply Kd.R_alloc | apply Kd.R_drewN | apply Kd.R_drew)); exact HO_6.out) | exact Kd.R_over' (v := (.slice (some ⟨go28, 0, none⟩) x7_2.length co30)) (Kd.R_drewN HO_6.out _) (Kd.R_typed (Kd.R_drewN HO_7.out _)) (by decide) (Kd.R_putg (Kd.R_drewN HO_7.out _) _ _).2⟩, ⟨by first | ((with_reducible repeat (first | apply Kd.R_alloc | apply Kd.R_drewN | apply Kd.R_drew)); exact HO_7.out) | (rw [Ny215.out]; exact (Kd.R_putg (Kd.R_drewN HO_7.out _) _ _).1)⟩, ⟨by first | ((repeat (first | (with_reducible first | exact HB.out | apply below_alloc | apply pw_below_drewN | apply below_drew1) | exact HB.out)); done) | exact below_set (pw_below_drewN HB.out _) GB28.out⟩⟩
                              · rw [if_neg c24] at H
                                exact absurd H (by simp)
                            · rw [if_neg c23] at H
                              have c23b0 : (((rd_T37 t203 x8_2).f1) == (rd x7_2 ((rd_T37 t203 x8_2).f0))) = false := beq_eq_false_iff_ne.mpr c23
                              have c23b1 : (((rd_T37 t203 x8_2).f1) != (rd x7_2 ((rd_T37 t203 x8_2).f0))) = true := bne_iff_ne.mpr c23
                              obtain rfl := Option.some.inj H
                              obtain ⟨Ao33, co33, eo33⟩ := Kd.R_slice HO_6.out
                              subst eo33
                              have p209 : 0 ≤ (x8_2 : Int) := of_decide_eq_true (by first | (with_reducible assumption) | assumption)
                              have q209 : x8_2 < (t203.length : Int) := of_decide_eq_true (by first | (with_reducible assumption) | assumption)
                              obtain ⟨ad209, e209, hx209_0, hx209_1⟩ := at_T37 (Kd.R_reads' HO_6.out).2.2 x8_2 p209 q209
                              cases e209
                              replace p209 := eq_true p209
                              replace q209 := eq_true q209
                              have p210 : 0 ≤ (x8_2 : Int) := of_decide_eq_true (by first | (with_reducible assumption) | assumption)
                              have q210 : x8_2 < (t203.length : Int) := of_decide_eq_true (by first | (with_reducible assumption) | assumption)
                              obtain ⟨ad210, e210, hx210_0, hx210_1⟩ := at_T37 (Kd.R_reads' HO_6.out).2.2 x8_2 p210 q210
                              obtain rfl : ad209 = ad210 := (by injection e210)
                              replace p210 := eq_true p210
                              replace q210 := eq_true q210
                              obtain ⟨Ao34, co34, eo34⟩ := Kd.R_slice HO_7.out
                              subst eo34
                              have p211 : 0 ≤ (((rd_T37 t203 x8_2).f0) : Int) := of_decide_eq_true (by first | (with_reducible assumption) | assumption)
                              have q211 : ((rd_T37 t203 x8_2).f0) < (x7_2.length : Int) := of_decide_eq_true (by first | (with_reducible assumption) | assumption)
                              obtain ⟨ad211, e211, hx211_0⟩ := Kd.at_int (Kd.R_reads' HO_7.out).2.2 ((rd_T37 t203 x8_2).f0) p211 q211
                              cases e211
                              replace p211 := eq_true p211
                              replace q211 := eq_true q211
                              go_wp2
                              repeat (go_quiet (fail); try go_wp2)
                              go_ret
                              exact ⟨by first | rfl | (simp [errW_none, errW_some] <;> rfl) | (simp [*, errW_none, errW_some] <;> rfl), by repeat (first | (with_reducible first | exact HB.out | apply below_alloc | apply pw_below_drewN | apply below_drew1) | exact HB.out)⟩
                          · rw [if_neg c22] at H
                            exact absurd H (by simp)
                        · rw [if_neg c21] at H
                          exact absurd H (by simp)
                  · rw [if_neg c16] at H
                    exact absurd H (by simp)
                · rw [if_neg c15] at H
                  have c15b0 : decide (x8_2 < (t203.length : Int)) = false := decide_eq_false c15
                  clear c15
                  by_cases c35 : t201 = true
                  · subst c35
                    have H1 : ((sched_May.f k2 l0).bind fun t216 => (if t216 = true then ((sched_Steps.f k2 l0).bind fun t217 => (some ((t203.length : Int) == t217))) else (some true))) = some r := by rw [if_pos rfl] at H; exact H
                    clear H
                    have H := H1
                    clear H1
                    replace H := Option.bind_eq_some_iff.mp H
                    obtain ⟨t216, A360, H⟩ := H
                    replace H : (if t216 = true then ((sched_Steps.f k2 l0).bind fun t217 => (some ((t203.length : Int) == t217))) else (some true)) = some r := H
                    have A36 := Aside0.mk A360
                    clear A360
                    by_cases c37 : t216 = true
                    · subst c37
                      have H1 : ((sched_Steps.f k2 l0).bind fun t217 => (some ((t203.length : Int) == t217))) = some r := by rw [if_pos rfl] at H; exact H
                      clear H
                      have H := H1
                      clear H1
                      replace H := Option.bind_eq_some_iff.mp H
                      obtain ⟨t217, A380, H⟩ := H
                      replace H : (some ((t203.length : Int) == t217)) = some r := H
                      have A38 := Aside0.mk A380
                      clear A380
                      obtain rfl := Option.some.inj H
                      obtain ⟨Ao39, co39, eo39⟩ := Kd.R_slice HO_6.out
                      subst eo39
                      go_wp2_with (first | (go_at_call 13; (with_reducible refine (sched_May.calls k2 _ _ l0 true _ ?side1 ?side2 A36.out).mono ?_); (case side1 => repeat (first | exact (Kd.C_below HR0.out HB.out) | (with_reducible refine Kd.C_alloc ?_ _) | (with_reducible refine Kd.C_drewN ?_ _) | (with_reducible refine Kd.C_drew ?_))); (case side2 => exact HC0.out); rintro e w' ⟨rfl, ⟨nd, rfl⟩⟩; (try first | exact ⟨rfl, _, World.drewN_drewN _ _ _⟩ | exact ⟨rfl, _, Eq.trans (World.drewN_drewN _ _ _) (congrArg (World.drewN _) (Nat.add_assoc _ _ _))⟩)) | (go_at_call 15; (with_reducible refine (sched_Steps.calls k2 _ _ l0 t217 _ ?side1 ?side2 A38.out).mono ?_); (case side1 => repeat (first | exact (Kd.C_below HR0.out (by repeat (first | (with_reducible first | exact HB.out | apply below_alloc | apply pw_below_drewN | apply below_drew1) | exact HB.out))) | (with_reducible refine Kd.C_alloc ?_ _) | (with_reducible refine Kd.C_drewN ?_ _) | (with_reducible refine Kd.C_drew ?_))); (case side2 => exact HC0.out); rintro e w' ⟨rfl, ⟨nd, rfl⟩⟩; (try first | exact ⟨rfl, _, World.drewN_drewN _ _ _⟩ | exact ⟨rfl, _, Eq.trans (World.drewN_drewN _ _ _) (congrArg (World.drewN _) (Nat.add_assoc _ _ _))⟩)))
                      repeat (go_quiet (first | (go_at_call 13; (with_reducible refine (sched_May.calls k2 _ _ l0 true _ ?side1 ?side2 A36.out).mono ?_); (case side1 => repeat (first | exact (Kd.C_below HR0.out HB.out) | (with_reducible refine Kd.C_alloc ?_ _) | (with_reducible refine Kd.C_drewN ?_ _) | (with_reducible refine Kd.C_drew ?_))); (case side2 => exact HC0.out); rintro e w' ⟨rfl, ⟨nd, rfl⟩⟩; (try first | exact ⟨rfl, _, World.drewN_drewN _ _ _⟩ | exact ⟨rfl, _, Eq.trans (World.drewN_drewN _ _ _) (congrArg (World.drewN _) (Nat.add_assoc _ _ _))⟩)) | (go_at_call 15; (with_reducible refine (sched_Steps.calls k2 _ _ l0 t217 _ ?side1 ?side2 A38.out).mono ?_); (case side1 => repeat (first | exact (Kd.C_below HR0.out (by repeat (first | (with_reducible first | exact HB.out | apply below_alloc | apply pw_below_drewN | apply below_drew1) | exact HB.out))) | (with_reducible refine Kd.C_alloc ?_ _) | (with_reducible refine Kd.C_drewN ?_ _) | (with_reducible refine Kd.C_drew ?_))); (case side2 => exact HC0.out); rintro e w' ⟨rfl, ⟨nd, rfl⟩⟩; (try first | exact ⟨rfl, _, World.drewN_drewN _ _ _⟩ | exact ⟨rfl, _, Eq.trans (World.drewN_drewN _ _ _) (congrArg (World.drewN _) (Nat.add_assoc _ _ _))⟩))); try go_wp2_with (first | (go_at_call 13; (with_reducible refine (sched_May.calls k2 _ _ l0 true _ ?side1 ?side2 A36.out).mono ?_); (case side1 => repeat (first | exact (Kd.C_below HR0.out HB.out) | (with_reducible refine Kd.C_alloc ?_ _) | (with_reducible refine Kd.C_drewN ?_ _) | (with_reducible refine Kd.C_drew ?_))); (case side2 => exact HC0.out); rintro e w' ⟨rfl, ⟨nd, rfl⟩⟩; (try first | exact ⟨rfl, _, World.drewN_drewN _ _ _⟩ | exact ⟨rfl, _, Eq.trans (World.drewN_drewN _ _ _) (congrArg (World.drewN _) (Nat.add_assoc _ _ _))⟩)) | (go_at_call 15; (with_reducible refine (sched_Steps.calls k2 _ _ l0 t217 _ ?side1 ?side2 A38.out).mono ?_); (case side1 => repeat (first | exact (Kd.C_below HR0.out (by repeat (first | (with_reducible first | exact HB.out | apply below_alloc | apply pw_below_drewN | apply below_drew1) | exact HB.out))) | (with_reducible refine Kd.C_alloc ?_ _) | (with_reducible refine Kd.C_drewN ?_ _) | (with_reducible refine Kd.C_drew ?_))); (case side2 => exact HC0.out); rintro e w' ⟨rfl, ⟨nd, rfl⟩⟩; (try first | exact ⟨rfl, _, World.drewN_drewN _ _ _⟩ | exact ⟨rfl, _, Eq.trans (World.drewN_drewN _ _ _) (congrArg (World.drewN _) (Nat.add_assoc _ _ _))⟩))))
                      go_ret
                      exact ⟨by first | rfl | (simp [errW_none, errW_some] <;> rfl) | (simp [*, errW_none, errW_some] <;> rfl), by repeat (first | (with_reducible first | exact HB.out | apply below_alloc | apply pw_below_drewN | apply below_drew1) | exact HB.out)⟩
                    · replace c37 := Bool.eq_false_iff.mpr c37
                      subst c37
                      have H1 : (some true) = some r := by rw [if_neg (show ¬ (false = true) by decide)] at H; exact H
                      clear H
                      have H := H1
                      clear H1
                      obtain rfl := Option.some.inj H
                      obtain ⟨Ao40, co40, eo40⟩ := Kd.R_slice HO_6.out
                      subst eo40
                      go_wp2_with (first | (go_at_call 13; (with_reducible refine (sched_May.calls k2 _ _ l0 false _ ?side1 ?side2 A36.out).mono ?_); (case side1 => repeat (first | exact (Kd.C_below HR0.out HB.out) | (with_reducible refine Kd.C_alloc ?_ _) | (with_reducible refine Kd.C_drewN ?_ _) | (with_reducible refine Kd.C_drew ?_))); (case side2 => exact HC0.out); rintro e w' ⟨rfl, ⟨nd, rfl⟩⟩; (try first | exact ⟨rfl, _, World.drewN_drewN _ _ _⟩ | exact ⟨rfl, _, Eq.trans (World.drewN_drewN _ _ _) (congrArg (World.drewN _) (Nat.add_assoc _ _ _))⟩)))
                      repeat (go_quiet (first | (go_at_call 13; (with_reducible refine (sched_May.calls k2 _ _ l0 false _ ?side1 ?side2 A36.out).mono ?_); (case side1 => repeat (first | exact (Kd.C_below HR0.out HB.out) | (with_reducible refine Kd.C_alloc ?_ _) | (with_reducible refine Kd.C_drewN ?_ _) | (with_reducible refine Kd.C_drew ?_))); (case side2 => exact HC0.out); rintro e w' ⟨rfl, ⟨nd, rfl⟩⟩; (try first | exact ⟨rfl, _, World.drewN_drewN _ _ _⟩ | exact ⟨rfl, _, Eq.trans (World.drewN_drewN _ _ _) (congrArg (World.drewN _) (Nat.add_assoc _ _ _))⟩))); try go_wp2_with (first | (go_at_call 13; (with_reducible refine (sched_May.calls k2 _ _ l0 false _ ?side1 ?side2 A36.out).mono ?_); (case side1 => repeat (first | exact (Kd.C_below HR0.out HB.out) | (with_reducible refine Kd.C_alloc ?_ _) | (with_reducible refine Kd.C_drewN ?_ _) | (with_reducible refine Kd.C_drew ?_))); (case side2 => exact HC0.out); rintro e w' ⟨rfl, ⟨nd, rfl⟩⟩; (try first | exact ⟨rfl, _, World.drewN_drewN _ _ _⟩ | exact ⟨rfl, _, Eq.trans (World.drewN_drewN _ _ _) (congrArg (World.drewN _) (Nat.add_assoc _ _ _))⟩))))
                      go_ret
                      exact ⟨by first | rfl | (simp [errW_none, errW_some] <;> rfl) | (simp [*, errW_none, errW_some] <;> rfl), by repeat (first | (with_reducible first | exact HB.out | apply below_alloc | apply pw_below_drewN | apply below_drew1) | exact HB.out)⟩
                  · replace c35 := Bool.eq_false_iff.mpr c35
                    subst c35
                    have H1 : (some false) = some r := by rw [if_neg (show ¬ (false = true) by decide)] at H; exact H
                    clear H
                    have H := H1
                    clear H1
                    obtain rfl := Option.some.inj H
                    obtain ⟨Ao41, co41, eo41⟩ := Kd.R_slice HO_6.out
                    subst eo41
                    go_wp2
                    repeat (go_quiet (fail); try go_wp2)
                    go_ret
                    exact ⟨by first | rfl | (simp [errW_none, errW_some] <;> rfl) | (simp [*, errW_none, errW_some] <;> rfl), by repeat (first | (with_reducible first | exact HB.out | apply below_alloc | apply pw_below_drewN | apply below_drew1) | exact HB.out)⟩
          · rw [if_neg c11] at H
            exact absurd H (by simp)
        · rw [if_neg c10] at H
          exact absurd H (by simp)

-- NOT PRINTED: function 6 (gatepostlaw22_SchedLocks)

-- NOT PRINTED: function 7 (gatepostlaw22_SchedPicks)

end Go.Proofs.Ytglafngeeggeeaa.PSch
