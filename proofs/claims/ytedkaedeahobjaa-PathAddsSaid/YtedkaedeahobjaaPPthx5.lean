/- Proved here: that functions of the program come to what plain Lean functions say, and (where it stands) the row of a law. No condition beyond that of the rows. Laid by a program of this session (wip/printgiven.py) out of the print of the translation. -/
import Derived.Test.YtedkaedeahobjaaWGuard
import Derived.Test.YtedkaedeahobjaaWRepsOne
import Derived.Test.YtedkaedeahobjaaPPthx0
import Derived.Test.YtedkaedeahobjaaPPthx3
import Derived.Test.YtedkaedeahobjaaPPthx4
namespace Go.Proofs.Ytedkaedeahobjaa.PPth
open Go.RowKit Go.Proofs.YtedkaedeahobjaaW.PrintWords Go.Proofs.YtedkaedeahobjaaW.PrintLast Go.Proofs.YtedkaedeahobjaaW.PrintMore
attribute [local go_sem] max2_int min2_int max_two min_two max_three min_three max_four min_four   -- for this text's walks alone
set_option linter.unusedVariables false
set_option linter.unusedSimpArgs false

/-! ### gatepostref11_Shorten: function 22 -/
def gatepostref11_Shorten.f (a0 : ByteArray) (l1 : List ByteArray) : Option (List ByteArray) := if a0.toList = ([102, 105, 108, 101] : List UInt8) then (if (l1.length : Int) = 1 then (if 0 < (l1.length : Int) then ((gatepostref11_Drive.f (rdOf ByteArray.empty l1 0)).bind fun t191 => (if t191 = true then (if 1 < ((rdOf ByteArray.empty l1 0).size : Int) then (if (bt (rdOf ByteArray.empty l1 0) 1) = 58 then (some l1) else (if 0 ≤ (mx (wrap64 ((l1.length : Int) - 1)) 0) then (if (mx (wrap64 ((l1.length : Int) - 1)) 0) ≤ (l1.length : Int) then (some (l1.take ((mx (wrap64 ((l1.length : Int) - 1)) 0) : Int).toNat)) else (none)) else (none))) else (none)) else (if 0 ≤ (mx (wrap64 ((l1.length : Int) - 1)) 0) then (if (mx (wrap64 ((l1.length : Int) - 1)) 0) ≤ (l1.length : Int) then (some (l1.take ((mx (wrap64 ((l1.length : Int) - 1)) 0) : Int).toNat)) else (none)) else (none)))) else (none)) else (if 0 ≤ (mx (wrap64 ((l1.length : Int) - 1)) 0) then (if (mx (wrap64 ((l1.length : Int) - 1)) 0) ≤ (l1.length : Int) then (some (l1.take ((mx (wrap64 ((l1.length : Int) - 1)) 0) : Int).toNat)) else (none)) else (none))) else (if 0 ≤ (mx (wrap64 ((l1.length : Int) - 1)) 0) then (if (mx (wrap64 ((l1.length : Int) - 1)) 0) ≤ (l1.length : Int) then (some (l1.take ((mx (wrap64 ((l1.length : Int) - 1)) 0) : Int).toNat)) else (none)) else (none))
set_option maxHeartbeats 8000000 in
set_option maxRecDepth 100000 in
theorem gatepostref11_Shorten.calls (a0 : ByteArray) (P1_ : Nat → Prop) (u9000_ : Value) (l1 : List ByteArray) (r : List ByteArray) (w0 w : World) (hB : Below w0.heap.size w0 w) (ho1 : Kd.R Kd.string 9 w w0.heap.size P1_ u9000_ l1) (h : gatepostref11_Shorten.f a0 l1 = some r) :
    Calls Try.prog 22 #[.string a0, u9000_] w fun e w' => ∃ v0_ : Value, e = .returned (v0_) ∧ Kd.R Kd.string 9 w' w0.heap.size (fun k_ => (P1_ k_ ∨ w.heap.size ≤ k_)) v0_ r ∧ Below w0.heap.size w0 w' ∧ Kept w w' (fun k_ => P1_ k_) := by
  have HO1 := Aside0.mk (show Kd.R Kd.string 9 w w0.heap.size (fun k_ => (P1_ k_ ∨ w.heap.size ≤ k_)) u9000_ l1 from Kd.R_mono ho1 (fun k_ hk => (.inl hk)))
  have HK := Aside0.mk (Kept.refl w (fun k_ => P1_ k_))
  have HW0 := Aside0.mk hB.size
  have HB := Aside0.mk hB
  clear hB
  have H : (if a0.toList = ([102, 105, 108, 101] : List UInt8) then (if (l1.length : Int) = 1 then (if 0 < (l1.length : Int) then ((gatepostref11_Drive.f (rdOf ByteArray.empty l1 0)).bind fun t191 => (if t191 = true then (if 1 < ((rdOf ByteArray.empty l1 0).size : Int) then (if (bt (rdOf ByteArray.empty l1 0) 1) = 58 then (some l1) else (if 0 ≤ (mx (wrap64 ((l1.length : Int) - 1)) 0) then (if (mx (wrap64 ((l1.length : Int) - 1)) 0) ≤ (l1.length : Int) then (some (l1.take ((mx (wrap64 ((l1.length : Int) - 1)) 0) : Int).toNat)) else (none)) else (none))) else (none)) else (if 0 ≤ (mx (wrap64 ((l1.length : Int) - 1)) 0) then (if (mx (wrap64 ((l1.length : Int) - 1)) 0) ≤ (l1.length : Int) then (some (l1.take ((mx (wrap64 ((l1.length : Int) - 1)) 0) : Int).toNat)) else (none)) else (none)))) else (none)) else (if 0 ≤ (mx (wrap64 ((l1.length : Int) - 1)) 0) then (if (mx (wrap64 ((l1.length : Int) - 1)) 0) ≤ (l1.length : Int) then (some (l1.take ((mx (wrap64 ((l1.length : Int) - 1)) 0) : Int).toNat)) else (none)) else (none))) else (if 0 ≤ (mx (wrap64 ((l1.length : Int) - 1)) 0) then (if (mx (wrap64 ((l1.length : Int) - 1)) 0) ≤ (l1.length : Int) then (some (l1.take ((mx (wrap64 ((l1.length : Int) - 1)) 0) : Int).toNat)) else (none)) else (none))) = some r := h
  clear h
  by_cases c3 : a0.toList = ([102, 105, 108, 101] : List UInt8)
  · rw [if_pos c3] at H
    have c3b0 : (a0.toList == ([102, 105, 108, 101] : List UInt8)) = true := beq_iff_eq.mpr c3
    have c3b1 : (a0.toList != ([102, 105, 108, 101] : List UInt8)) = false := bne_eq_false_iff_eq.mpr c3
    clear c3
    by_cases c4 : (l1.length : Int) = 1
    · rw [if_pos c4] at H
      have c4b0 : ((l1.length : Int) == 1) = true := beq_iff_eq.mpr c4
      have c4b1 : ((l1.length : Int) != 1) = false := bne_eq_false_iff_eq.mpr c4
      clear c4
      by_cases c5 : 0 < (l1.length : Int)
      · rw [if_pos c5] at H
        have c5b0 : decide (0 < (l1.length : Int)) = true := decide_eq_true c5
        have c5b1 : decide (0 < l1.length) = true := decide_eq_true (by omega)
        clear c5
        replace H := Option.bind_eq_some_iff.mp H
        obtain ⟨t191, A60, H⟩ := H
        replace H : (if t191 = true then (if 1 < ((rdOf ByteArray.empty l1 0).size : Int) then (if (bt (rdOf ByteArray.empty l1 0) 1) = 58 then (some l1) else (if 0 ≤ (mx (wrap64 ((l1.length : Int) - 1)) 0) then (if (mx (wrap64 ((l1.length : Int) - 1)) 0) ≤ (l1.length : Int) then (some (l1.take ((mx (wrap64 ((l1.length : Int) - 1)) 0) : Int).toNat)) else (none)) else (none))) else (none)) else (if 0 ≤ (mx (wrap64 ((l1.length : Int) - 1)) 0) then (if (mx (wrap64 ((l1.length : Int) - 1)) 0) ≤ (l1.length : Int) then (some (l1.take ((mx (wrap64 ((l1.length : Int) - 1)) 0) : Int).toNat)) else (none)) else (none))) = some r := H
        have A6 := Aside0.mk A60
        clear A60
        by_cases c7 : t191 = true
        · subst c7
          have H1 : (if 1 < ((rdOf ByteArray.empty l1 0).size : Int) then (if (bt (rdOf ByteArray.empty l1 0) 1) = 58 then (some l1) else (if 0 ≤ (mx (wrap64 ((l1.length : Int) - 1)) 0) then (if (mx (wrap64 ((l1.length : Int) - 1)) 0) ≤ (l1.length : Int) then (some (l1.take ((mx (wrap64 ((l1.length : Int) - 1)) 0) : Int).toNat)) else (none)) else (none))) else (none)) = some r := by rw [if_pos rfl] at H; exact H
          clear H
          have H := H1
          clear H1
          by_cases c8 : 1 < ((rdOf ByteArray.empty l1 0).size : Int)
          · rw [if_pos c8] at H
            have c8b0 : decide (1 < ((rdOf ByteArray.empty l1 0).size : Int)) = true := decide_eq_true c8
            have c8b1 : decide (1 < (rdOf ByteArray.empty l1 0).size) = true := decide_eq_true (by omega)
            clear c8
            by_cases c10 : (bt (rdOf ByteArray.empty l1 0) 1) = 58
            · rw [if_pos c10] at H
              have c10b0 : ((bt (rdOf ByteArray.empty l1 0) 1) == 58) = true := beq_iff_eq.mpr c10
              have c10b1 : ((bt (rdOf ByteArray.empty l1 0) 1) != 58) = false := bne_eq_false_iff_eq.mpr c10
              clear c10
              obtain rfl := Option.some.inj H
              obtain ⟨Ao11, co11, eo11⟩ := Kd.R_slice HO1.out
              subst eo11
              have p190 : 0 ≤ (0 : Int) := (by omega)
              have q190 : 0 < (l1.length : Int) := of_decide_eq_true (by first | (with_reducible assumption) | assumption)
              obtain ⟨ad190, e190, hx190_0⟩ := Kd.at_string (Kd.R_reads' HO1.out).2.2 0 p190 q190
              cases e190
              have qi190 : (0 < l1.length) = True := eq_true (by omega)
              (try rw [show ((0 : Int)).toNat = 0 from rfl] at hx190_0)
              (try rw [Addr.add_zero'] at hx190_0)
              replace p190 := eq_true p190
              replace q190 := eq_true q190
              go_enter Try.func22, Try.ntmps22
              go_wp2_with (first | (go_at_call 18; (with_reducible refine (gatepostref11_Drive.calls (rdOf ByteArray.empty l1 0) true _ A6.out).mono ?_); rintro e w' ⟨rfl, ⟨nd, rfl⟩⟩; have p192 : 0 ≤ (0 : Int) := (by omega); have q192 : 0 < (l1.length : Int) := of_decide_eq_true (by first | (with_reducible assumption) | assumption); obtain ⟨ad192, e192, hx192_0⟩ := Kd.at_string (Kd.R_reads' HO1.out).2.2 0 p192 q192; obtain rfl : ad190 = ad192 := (by injection e192); have qi192 : (0 < l1.length) = True := eq_true (by omega); (try rw [show ((0 : Int)).toNat = 0 from rfl] at hx192_0); (try rw [Addr.add_zero'] at hx192_0); replace p192 := eq_true p192; replace q192 := eq_true q192; have p9 : 0 ≤ (1 : Int) := (by omega); have q9 : 1 < (rdOf ByteArray.empty l1 0).size := (by have : (1 : Int) < ((rdOf ByteArray.empty l1 0).size : Int) := of_decide_eq_true (by first | (with_reducible assumption) | assumption); omega); have hx9 : ∀ h : 1 < (rdOf ByteArray.empty l1 0).size, (((rdOf ByteArray.empty l1 0)[1]'h).toNat : Int) = bt (rdOf ByteArray.empty l1 0) 1 := bt_at (rdOf ByteArray.empty l1 0) 1; clear p9; have qi9 : (1 < ((rdOf ByteArray.empty l1 0).size : Int)) = True := eq_true (of_decide_eq_true (by first | (with_reducible assumption) | assumption)); replace q9 := eq_true q9))
              go_ret
              exact ⟨_, by first | rfl | (simp [errW_none, errW_some] <;> rfl) | (simp [*, errW_none, errW_some] <;> rfl), by (with_reducible repeat (first | apply Kd.R_alloc | apply Kd.R_drewN | apply Kd.R_drew)); exact HO1.out, by repeat (first | (with_reducible first | exact HB.out | apply below_alloc | apply pw_below_drewN | apply below_drew1) | exact HB.out), by repeat (first | (with_reducible first | exact HK.out | apply Kept.alloc | apply Kept.drewN | apply Kept.drew) | exact HK.out)⟩
            · rw [if_neg c10] at H
              have c10b0 : ((bt (rdOf ByteArray.empty l1 0) 1) == 58) = false := beq_eq_false_iff_ne.mpr c10
              have c10b1 : ((bt (rdOf ByteArray.empty l1 0) 1) != 58) = true := bne_iff_ne.mpr c10
              obtain ⟨ji12, hji12⟩ : ∃ j_ : Int, (mx (wrap64 ((l1.length : Int) - 1)) 0) = j_ := ⟨_, rfl⟩
              replace H : (if 0 ≤ (ji12) then (if (ji12) ≤ (l1.length : Int) then (some (l1.take ((ji12) : Int).toNat)) else (none)) else (none)) = some r := by first | (rw [hji12] at H; exact H) | (simp only [hji12] at H ⊢; exact H)
              (try rw [hji12] at A6)
              (try (have hji12l : 0 ≤ ji12 := by (rw [← hji12]; unfold mx; (repeat' split) <;> omega)))
              (try (have hji12m : 0 ≤ ji12 := by omega))
              have hji12_ : (if (wrap64 ((l1.length : Int) - 1)) < 0 then 0 else (wrap64 ((l1.length : Int) - 1))) = ji12 := hji12
              by_cases c13 : 0 ≤ (ji12)
              · rw [if_pos c13] at H
                have c13b0 := eq_true c13
                have c13b1 : decide (0 ≤ (ji12)) = true := decide_eq_true c13
                clear c13
                by_cases c14 : (ji12) ≤ (l1.length : Int)
                · rw [if_pos c14] at H
                  have c14b0 := eq_true c14
                  have c14b1 : decide ((ji12) ≤ (l1.length : Int)) = true := decide_eq_true c14
                  clear c14
                  obtain ⟨y193, hy193⟩ : ∃ y_ : List ByteArray, y_ = (l1.take ((ji12) : Int).toNat) := ⟨_, rfl⟩
                  replace H : (some y193) = some r := by first | (rw [hy193]; with_reducible exact H) | (have H2_ := (Option.bind_some _ _).symm.trans H; rw [hy193]; with_reducible exact H2_) | (have H2_ := (Option.bind_some _ _).symm.trans H; with_reducible exact H2_) | with_reducible exact H | (rw [hy193]; exact H) | exact H
                  have Ny193 := Aside0.mk hy193
                  clear hy193
                  obtain rfl := Option.some.inj H
                  obtain ⟨Ao15, co15, eo15⟩ := Kd.R_slice HO1.out
                  subst eo15
                  have p190 : 0 ≤ (0 : Int) := (by omega)
                  have q190 : 0 < (l1.length : Int) := of_decide_eq_true (by first | (with_reducible assumption) | assumption)
                  obtain ⟨ad190, e190, hx190_0⟩ := Kd.at_string (Kd.R_reads' HO1.out).2.2 0 p190 q190
                  cases e190
                  have qi190 : (0 < l1.length) = True := eq_true (by omega)
                  (try rw [show ((0 : Int)).toNat = 0 from rfl] at hx190_0)
                  (try rw [Addr.add_zero'] at hx190_0)
                  replace p190 := eq_true p190
                  replace q190 := eq_true q190
                  go_enter Try.func22, Try.ntmps22
                  go_wp2_with (first | (go_at_call 18; (with_reducible refine (gatepostref11_Drive.calls (rdOf ByteArray.empty l1 0) true _ A6.out).mono ?_); rintro e w' ⟨rfl, ⟨nd, rfl⟩⟩; have p192 : 0 ≤ (0 : Int) := (by omega); have q192 : 0 < (l1.length : Int) := of_decide_eq_true (by first | (with_reducible assumption) | assumption); obtain ⟨ad192, e192, hx192_0⟩ := Kd.at_string (Kd.R_reads' HO1.out).2.2 0 p192 q192; obtain rfl : ad190 = ad192 := (by injection e192); have qi192 : (0 < l1.length) = True := eq_true (by omega); (try rw [show ((0 : Int)).toNat = 0 from rfl] at hx192_0); (try rw [Addr.add_zero'] at hx192_0); replace p192 := eq_true p192; replace q192 := eq_true q192; have p9 : 0 ≤ (1 : Int) := (by omega); have q9 : 1 < (rdOf ByteArray.empty l1 0).size := (by have : (1 : Int) < ((rdOf ByteArray.empty l1 0).size : Int) := of_decide_eq_true (by first | (with_reducible assumption) | assumption); omega); have hx9 : ∀ h : 1 < (rdOf ByteArray.empty l1 0).size, (((rdOf ByteArray.empty l1 0)[1]'h).toNat : Int) = bt (rdOf ByteArray.empty l1 0) 1 := bt_at (rdOf ByteArray.empty l1 0) 1; clear p9; have qi9 : (1 < ((rdOf ByteArray.empty l1 0).size : Int)) = True := eq_true (of_decide_eq_true (by first | (with_reducible assumption) | assumption)); replace q9 := eq_true q9; have q16 : ((ji12) : Int) ≤ ((l1.length : Int) : Int) := of_decide_eq_true (by first | (with_reducible assumption) | assumption); obtain ⟨i016, hi016, _, hsz16, _⟩ := info_parts info9; have hcut16 := cut_to (P := Try.prog) 22 9 .i64 Try.underlying22 hi016 (some ad190) l1.length co15 (ji12) (of_decide_eq_true (by first | (with_reducible assumption) | assumption)) q16 (Kd.R_reads' HO1.out).2.1; have hr16 := Kd.R_take (m := ((ji12) : Int).toNat) HO1.out (by omega); have hy16 : y193.length = ((ji12) : Int).toNat := (by rw [Ny193.out, List.length_take]; omega); rw [← Ny193.out] at hr16; rw [← hy16] at hr16 hcut16; clear hy16 hi016 hsz16 HO1; have HO195 := Aside0.mk hr16; clear hr16; replace q16 := eq_true q16))
                  go_ret
                  exact ⟨_, by first | rfl | (simp [errW_none, errW_some] <;> rfl) | (simp only [← hji12]; first | rfl | (simp [errW_none, errW_some] <;> rfl)) | (simp [*, errW_none, errW_some] <;> rfl), by (with_reducible repeat (first | apply Kd.R_alloc | apply Kd.R_drewN | apply Kd.R_drew)); exact HO195.out, by repeat (first | (with_reducible first | exact HB.out | apply below_alloc | apply pw_below_drewN | apply below_drew1) | exact HB.out), by repeat (first | (with_reducible first | exact HK.out | apply Kept.alloc | apply Kept.drewN | apply Kept.drew) | exact HK.out)⟩
                · rw [if_neg c14] at H
                  exact absurd H (by simp)
              · rw [if_neg c13] at H
                exact absurd H (by simp)
          · rw [if_neg c8] at H
            exact absurd H (by simp)
        · replace c7 := Bool.eq_false_iff.mpr c7
          subst c7
          have H1 : (if 0 ≤ (mx (wrap64 ((l1.length : Int) - 1)) 0) then (if (mx (wrap64 ((l1.length : Int) - 1)) 0) ≤ (l1.length : Int) then (some (l1.take ((mx (wrap64 ((l1.length : Int) - 1)) 0) : Int).toNat)) else (none)) else (none)) = some r := by rw [if_neg (show ¬ (false = true) by decide)] at H; exact H
          clear H
          have H := H1
          clear H1
          obtain ⟨ji17, hji17⟩ : ∃ j_ : Int, (mx (wrap64 ((l1.length : Int) - 1)) 0) = j_ := ⟨_, rfl⟩
          replace H : (if 0 ≤ (ji17) then (if (ji17) ≤ (l1.length : Int) then (some (l1.take ((ji17) : Int).toNat)) else (none)) else (none)) = some r := by first | (rw [hji17] at H; exact H) | (simp only [hji17] at H ⊢; exact H)
          (try rw [hji17] at A6)
          (try (have hji17l : 0 ≤ ji17 := by (rw [← hji17]; unfold mx; (repeat' split) <;> omega)))
          (try (have hji17m : 0 ≤ ji17 := by omega))
          have hji17_ : (if (wrap64 ((l1.length : Int) - 1)) < 0 then 0 else (wrap64 ((l1.length : Int) - 1))) = ji17 := hji17
          by_cases c18 : 0 ≤ (ji17)
          · rw [if_pos c18] at H
            have c18b0 := eq_true c18
            have c18b1 : decide (0 ≤ (ji17)) = true := decide_eq_true c18
            clear c18
            by_cases c19 : (ji17) ≤ (l1.length : Int)
            · rw [if_pos c19] at H
              have c19b0 := eq_true c19
              have c19b1 : decide ((ji17) ≤ (l1.length : Int)) = true := decide_eq_true c19
              clear c19
              obtain ⟨y196, hy196⟩ : ∃ y_ : List ByteArray, y_ = (l1.take ((ji17) : Int).toNat) := ⟨_, rfl⟩
              replace H : (some y196) = some r := by first | (rw [hy196]; with_reducible exact H) | (have H2_ := (Option.bind_some _ _).symm.trans H; rw [hy196]; with_reducible exact H2_) | (have H2_ := (Option.bind_some _ _).symm.trans H; with_reducible exact H2_) | with_reducible exact H | (rw [hy196]; exact H) | exact H
              have Ny196 := Aside0.mk hy196
              clear hy196
              obtain rfl := Option.some.inj H
              obtain ⟨Ao20, co20, eo20⟩ := Kd.R_slice HO1.out
              subst eo20
              have p190 : 0 ≤ (0 : Int) := (by omega)
              have q190 : 0 < (l1.length : Int) := of_decide_eq_true (by first | (with_reducible assumption) | assumption)
              obtain ⟨ad190, e190, hx190_0⟩ := Kd.at_string (Kd.R_reads' HO1.out).2.2 0 p190 q190
              cases e190
              have qi190 : (0 < l1.length) = True := eq_true (by omega)
              (try rw [show ((0 : Int)).toNat = 0 from rfl] at hx190_0)
              (try rw [Addr.add_zero'] at hx190_0)
              replace p190 := eq_true p190
              replace q190 := eq_true q190
              go_enter Try.func22, Try.ntmps22
              go_wp2_with (first | (go_at_call 18; (with_reducible refine (gatepostref11_Drive.calls (rdOf ByteArray.empty l1 0) false _ A6.out).mono ?_); rintro e w' ⟨rfl, ⟨nd, rfl⟩⟩; have q21 : ((ji17) : Int) ≤ ((l1.length : Int) : Int) := of_decide_eq_true (by first | (with_reducible assumption) | assumption); obtain ⟨i021, hi021, _, hsz21, _⟩ := info_parts info9; have hcut21 := cut_to (P := Try.prog) 22 9 .i64 Try.underlying22 hi021 (some ad190) l1.length co20 (ji17) (of_decide_eq_true (by first | (with_reducible assumption) | assumption)) q21 (Kd.R_reads' HO1.out).2.1; have hr21 := Kd.R_take (m := ((ji17) : Int).toNat) HO1.out (by omega); have hy21 : y196.length = ((ji17) : Int).toNat := (by rw [Ny196.out, List.length_take]; omega); rw [← Ny196.out] at hr21; rw [← hy21] at hr21 hcut21; clear hy21 hi021 hsz21 HO1; have HO198 := Aside0.mk hr21; clear hr21; replace q21 := eq_true q21))
              go_ret
              exact ⟨_, by first | rfl | (simp [errW_none, errW_some] <;> rfl) | (simp only [← hji17]; first | rfl | (simp [errW_none, errW_some] <;> rfl)) | (simp [*, errW_none, errW_some] <;> rfl), by (with_reducible repeat (first | apply Kd.R_alloc | apply Kd.R_drewN | apply Kd.R_drew)); exact HO198.out, by repeat (first | (with_reducible first | exact HB.out | apply below_alloc | apply pw_below_drewN | apply below_drew1) | exact HB.out), by repeat (first | (with_reducible first | exact HK.out | apply Kept.alloc | apply Kept.drewN | apply Kept.drew) | exact HK.out)⟩
            · rw [if_neg c19] at H
              exact absurd H (by simp)
          · rw [if_neg c18] at H
            exact absurd H (by simp)
      · rw [if_neg c5] at H
        exact absurd H (by simp)
    · rw [if_neg c4] at H
      have c4b0 : ((l1.length : Int) == 1) = false := beq_eq_false_iff_ne.mpr c4
      have c4b1 : ((l1.length : Int) != 1) = true := bne_iff_ne.mpr c4
      obtain ⟨ji22, hji22⟩ : ∃ j_ : Int, (mx (wrap64 ((l1.length : Int) - 1)) 0) = j_ := ⟨_, rfl⟩
      replace H : (if 0 ≤ (ji22) then (if (ji22) ≤ (l1.length : Int) then (some (l1.take ((ji22) : Int).toNat)) else (none)) else (none)) = some r := by first | (rw [hji22] at H; exact H) | (simp only [hji22] at H ⊢; exact H)
      (try (have hji22l : 0 ≤ ji22 := by (rw [← hji22]; unfold mx; (repeat' split) <;> omega)))
      (try (have hji22m : 0 ≤ ji22 := by omega))
      have hji22_ : (if (wrap64 ((l1.length : Int) - 1)) < 0 then 0 else (wrap64 ((l1.length : Int) - 1))) = ji22 := hji22
      by_cases c23 : 0 ≤ (ji22)
      · rw [if_pos c23] at H
        have c23b0 := eq_true c23
        have c23b1 : decide (0 ≤ (ji22)) = true := decide_eq_true c23
        clear c23
        by_cases c24 : (ji22) ≤ (l1.length : Int)
        · rw [if_pos c24] at H
          have c24b0 := eq_true c24
          have c24b1 : decide ((ji22) ≤ (l1.length : Int)) = true := decide_eq_true c24
          clear c24
          obtain ⟨y199, hy199⟩ : ∃ y_ : List ByteArray, y_ = (l1.take ((ji22) : Int).toNat) := ⟨_, rfl⟩
          replace H : (some y199) = some r := by first | (rw [hy199]; with_reducible exact H) | (have H2_ := (Option.bind_some _ _).symm.trans H; rw [hy199]; with_reducible exact H2_) | (have H2_ := (Option.bind_some _ _).symm.trans H; with_reducible exact H2_) | with_reducible exact H | (rw [hy199]; exact H) | exact H
          have Ny199 := Aside0.mk hy199
          clear hy199
          obtain rfl := Option.some.inj H
          obtain ⟨Ao25, co25, eo25⟩ := Kd.R_slice HO1.out
          subst eo25
          have q26 : ((ji22) : Int) ≤ ((l1.length : Int) : Int) := of_decide_eq_true (by first | (with_reducible assumption) | assumption)
          obtain ⟨i026, hi026, _, hsz26, _⟩ := info_parts info9
          have hcut26 := cut_to (P := Try.prog) 22 9 .i64 Try.underlying22 hi026 Ao25 l1.length co25 (ji22) (of_decide_eq_true (by first | (with_reducible assumption) | assumption)) q26 (Kd.R_reads' HO1.out).2.1
          have hr26 := Kd.R_take (m := ((ji22) : Int).toNat) HO1.out (by omega)
          have hy26 : y199.length = ((ji22) : Int).toNat := (by rw [Ny199.out, List.length_take]; omega)
          rw [← Ny199.out] at hr26
          rw [← hy26] at hr26 hcut26
          clear hy26 hi026 hsz26 HO1
          have HO201 := Aside0.mk hr26
          clear hr26
          replace q26 := eq_true q26
          go_enter Try.func22, Try.ntmps22
          go_wp2
          go_ret
          exact ⟨_, by first | rfl | (simp [errW_none, errW_some] <;> rfl) | (simp only [← hji22]; first | rfl | (simp [errW_none, errW_some] <;> rfl)) | (simp [*, errW_none, errW_some] <;> rfl), by (with_reducible repeat (first | apply Kd.R_alloc | apply Kd.R_drewN | apply Kd.R_drew)); exact HO201.out, by repeat (first | (with_reducible first | exact HB.out | apply below_alloc | apply pw_below_drewN | apply below_drew1) | exact HB.out), by repeat (first | (with_reducible first | exact HK.out | apply Kept.alloc | apply Kept.drewN | apply Kept.drew) | exact HK.out)⟩
        · rw [if_neg c24] at H
          exact absurd H (by simp)
      · rw [if_neg c23] at H
        exact absurd H (by simp)
  · rw [if_neg c3] at H
    have c3b0 : (a0.toList == ([102, 105, 108, 101] : List UInt8)) = false := beq_eq_false_iff_ne.mpr c3
    have c3b1 : (a0.toList != ([102, 105, 108, 101] : List UInt8)) = true := bne_iff_ne.mpr c3
    obtain ⟨ji27, hji27⟩ : ∃ j_ : Int, (mx (wrap64 ((l1.length : Int) - 1)) 0) = j_ := ⟨_, rfl⟩
    replace H : (if 0 ≤ (ji27) then (if (ji27) ≤ (l1.length : Int) then (some (l1.take ((ji27) : Int).toNat)) else (none)) else (none)) = some r := by first | (rw [hji27] at H; exact H) | (simp only [hji27] at H ⊢; exact H)
    (try (have hji27l : 0 ≤ ji27 := by (rw [← hji27]; unfold mx; (repeat' split) <;> omega)))
    (try (have hji27m : 0 ≤ ji27 := by omega))
    have hji27_ : (if (wrap64 ((l1.length : Int) - 1)) < 0 then 0 else (wrap64 ((l1.length : Int) - 1))) = ji27 := hji27
    by_cases c28 : 0 ≤ (ji27)
    · rw [if_pos c28] at H
      have c28b0 := eq_true c28
      have c28b1 : decide (0 ≤ (ji27)) = true := decide_eq_true c28
      clear c28
      by_cases c29 : (ji27) ≤ (l1.length : Int)
      · rw [if_pos c29] at H
        have c29b0 := eq_true c29
        have c29b1 : decide ((ji27) ≤ (l1.length : Int)) = true := decide_eq_true c29
        clear c29
        obtain ⟨y202, hy202⟩ : ∃ y_ : List ByteArray, y_ = (l1.take ((ji27) : Int).toNat) := ⟨_, rfl⟩
        replace H : (some y202) = some r := by first | (rw [hy202]; with_reducible exact H) | (have H2_ := (Option.bind_some _ _).symm.trans H; rw [hy202]; with_reducible exact H2_) | (have H2_ := (Option.bind_some _ _).symm.trans H; with_reducible exact H2_) | with_reducible exact H | (rw [hy202]; exact H) | exact H
        have Ny202 := Aside0.mk hy202
        clear hy202
        obtain rfl := Option.some.inj H
        obtain ⟨Ao30, co30, eo30⟩ := Kd.R_slice HO1.out
        subst eo30
        have q31 : ((ji27) : Int) ≤ ((l1.length : Int) : Int) := of_decide_eq_true (by first | (with_reducible assumption) | assumption)
        obtain ⟨i031, hi031, _, hsz31, _⟩ := info_parts info9
        have hcut31 := cut_to (P := Try.prog) 22 9 .i64 Try.underlying22 hi031 Ao30 l1.length co30 (ji27) (of_decide_eq_true (by first | (with_reducible assumption) | assumption)) q31 (Kd.R_reads' HO1.out).2.1
        have hr31 := Kd.R_take (m := ((ji27) : Int).toNat) HO1.out (by omega)
        have hy31 : y202.length = ((ji27) : Int).toNat := (by rw [Ny202.out, List.length_take]; omega)
        rw [← Ny202.out] at hr31
        rw [← hy31] at hr31 hcut31
        clear hy31 hi031 hsz31 HO1
        have HO204 := Aside0.mk hr31
        clear hr31
        replace q31 := eq_true q31
        go_enter Try.func22, Try.ntmps22
        go_wp2
        go_ret
        exact ⟨_, by first | rfl | (simp [errW_none, errW_some] <;> rfl) | (simp only [← hji27]; first | rfl | (simp [errW_none, errW_some] <;> rfl)) | (simp [*, errW_none, errW_some] <;> rfl), by (with_reducible repeat (first | apply Kd.R_alloc | apply Kd.R_drewN | apply Kd.R_drew)); exact HO204.out, by repeat (first | (with_reducible first | exact HB.out | apply below_alloc | apply pw_below_drewN | apply below_drew1) | exact HB.out), by repeat (first | (with_reducible first | exact HK.out | apply Kept.alloc | apply Kept.drewN | apply Kept.drew) | exact HK.out)⟩
      · rw [if_neg c29] at H
        exact absurd H (by simp)
    · rw [if_neg c28] at H
      exact absurd H (by simp)

/-! ### gatepostref11_Add: function 21 -/
mutual
def gatepostref11_Add.j0 : Nat → ByteArray → List ByteArray → ByteArray → Bool → List ByteArray → Bool → Option (List ByteArray)
  | 0, _, _, _, _, _, _ => none
  | k + 1, x0, x1, x2, x3, x9, x18 => if x18 = true then ((gatepostref11_Dots.f k x2).bind fun t213 => (if t213 = true then ((some (([] : List ByteArray) : List ByteArray)).bind fun y214 => ((gatepostref11_Shorten.f x0 x1).bind fun t217 => (if y214.length + t217.length < 8796093022208 then (gatepostref11_Add.j1 k x3 (y214 ++ t217)) else (none)))) else (gatepostref11_Add.j1 k x3 x9))) else (if x0.toList = ([102, 105, 108, 101] : List UInt8) then (if (x1.length : Int) = 0 then ((gatepostref11_Drive.f x2).bind fun t226 => (if t226 = true then (if 0 ≤ 1 then (if 1 ≤ (x2.size : Int) then (if (x2.extract 0 1).size + 1 ≤ 9223372036854775807 then (some (([(x2.extract 0 1) ++ (⟨#[58]⟩ : ByteArray)] : List ByteArray))) else (none)) else (none)) else (none)) else (if x9.length < 8796093022208 then (some (x9 ++ [x2])) else (none)))) else (if x9.length < 8796093022208 then (some (x9 ++ [x2])) else (none))) else (if x9.length < 8796093022208 then (some (x9 ++ [x2])) else (none)))
def gatepostref11_Add.j1 : Nat → Bool → List ByteArray → Option (List ByteArray)
  | 0, _, _ => none
  | k + 1, x3, x9 => if x3 = true then (if x9.length < 8796093022208 then (some (x9 ++ [(⟨#[]⟩ : ByteArray)])) else (none)) else (some x9)
end
def gatepostref11_Add.f (k : Nat) (a0 : ByteArray) (l1 : List ByteArray) (a2 : ByteArray) (a3 : Bool) : Option (List ByteArray) := (some (([] : List ByteArray) : List ByteArray)).bind fun y205 => (if y205.length + l1.length < 8796093022208 then ((some (y205 ++ l1 : List ByteArray)).bind fun y208 => ((gatepostref11_Dots.f k a2).bind fun t211 => (if t211 = true then (gatepostref11_Add.j0 k a0 l1 a2 a3 y208 true) else ((gatepostref11_Dot.f k a2).bind fun t212 => (gatepostref11_Add.j0 k a0 l1 a2 a3 y208 t212))))) else (none))
theorem gatepostref11_Add.mono_l : ∀ k, (∀ y0 y1 y2 y3 y4 y5, LeO (gatepostref11_Add.j0 k y0 y1 y2 y3 y4 y5) (gatepostref11_Add.j0 (k + 1) y0 y1 y2 y3 y4 y5)) ∧ (∀ y0 y1, LeO (gatepostref11_Add.j1 k y0 y1) (gatepostref11_Add.j1 (k + 1) y0 y1))
  | 0 => ⟨fun _ _ _ _ _ _ r h => by simp [gatepostref11_Add.j0] at h, fun _ _ r h => by simp [gatepostref11_Add.j1] at h⟩
  | k + 1 => by
    obtain ⟨ih0, ih1⟩ := gatepostref11_Add.mono_l k
    refine ⟨?_, ?_⟩
    · intro y0 y1 y2 y3 y4 y5
      unfold gatepostref11_Add.j0
      repeat' first
      | (with_reducible exact ih0 _ _ _ _ _ _)
      | (with_reducible exact ih1 _ _)
      | (with_reducible exact gatepostref11_Dot.mono _ _)
      | (with_reducible exact gatepostref11_Dots.mono _ _)
      | (with_reducible exact LeO.refl _)
      | (with_reducible exact LeO.none _)
      | (with_reducible refine LeO.ite ?_ ?_)
      | (with_reducible refine LeO.bind ?_ (fun _ => ?_))
      | exact ih0 _ _ _ _ _ _
      | exact ih1 _ _
      | exact gatepostref11_Dot.mono _ _
      | exact gatepostref11_Dots.mono _ _
      | exact LeO.none _
      | refine LeO.ite ?_ ?_
      | refine LeO.bind ?_ (fun _ => ?_)
    · intro y0 y1
      unfold gatepostref11_Add.j1
      repeat' first
      | (with_reducible exact ih0 _ _ _ _ _ _)
      | (with_reducible exact ih1 _ _)
      | (with_reducible exact gatepostref11_Dot.mono _ _)
      | (with_reducible exact gatepostref11_Dots.mono _ _)
      | (with_reducible exact LeO.refl _)
      | (with_reducible exact LeO.none _)
      | (with_reducible refine LeO.ite ?_ ?_)
      | (with_reducible refine LeO.bind ?_ (fun _ => ?_))
      | exact ih0 _ _ _ _ _ _
      | exact ih1 _ _
      | exact gatepostref11_Dot.mono _ _
      | exact gatepostref11_Dots.mono _ _
      | exact LeO.none _
      | refine LeO.ite ?_ ?_
      | refine LeO.bind ?_ (fun _ => ?_)
theorem gatepostref11_Add.mono : ∀ a0 a1 a2 a3 k, LeO (gatepostref11_Add.f k a0 a1 a2 a3) (gatepostref11_Add.f (k + 1) a0 a1 a2 a3) := by
  intro a0 a1 a2 a3 k
  obtain ⟨ih0, ih1⟩ := gatepostref11_Add.mono_l k
  unfold gatepostref11_Add.f
  repeat' first
      | (with_reducible exact ih0 _ _ _ _ _ _)
      | (with_reducible exact ih1 _ _)
      | (with_reducible exact gatepostref11_Dot.mono _ _)
      | (with_reducible exact gatepostref11_Dots.mono _ _)
      | (with_reducible exact LeO.refl _)
      | (with_reducible exact LeO.none _)
      | (with_reducible refine LeO.ite ?_ ?_)
      | (with_reducible refine LeO.bind ?_ (fun _ => ?_))
      | exact ih0 _ _ _ _ _ _
      | exact ih1 _ _
      | exact gatepostref11_Dot.mono _ _
      | exact gatepostref11_Dots.mono _ _
      | exact LeO.none _
      | refine LeO.ite ?_ ?_
      | refine LeO.bind ?_ (fun _ => ?_)
set_option maxHeartbeats 8000000 in
set_option maxRecDepth 100000 in
theorem gatepostref11_Add.calls (k : Nat) (a0 : ByteArray) (P1_ : Nat → Prop) (u9000_ : Value) (l1 : List ByteArray) (a2 : ByteArray) (a3 : Bool) (r : List ByteArray) (w0 w : World) (hB : Below w0.heap.size w0 w) (ho1 : Kd.R Kd.string 9 w w0.heap.size P1_ u9000_ l1) (h : gatepostref11_Add.f k a0 l1 a2 a3 = some r) :
    Calls Try.prog 21 #[.string a0, u9000_, .string a2, .bool a3] w fun e w' => ∃ v0_ : Value, e = .returned (v0_) ∧ Kd.R Kd.string 9 w' w0.heap.size (fun k_ => (P1_ k_ ∨ w.heap.size ≤ k_)) v0_ r ∧ Below w0.heap.size w0 w' ∧ Kept w w' (fun k_ => P1_ k_) := by
  have HO1 := Aside0.mk (show Kd.R Kd.string 9 w w0.heap.size (fun k_ => (P1_ k_ ∨ w.heap.size ≤ k_)) u9000_ l1 from Kd.R_mono ho1 (fun k_ hk => (.inl hk)))
  have HK := Aside0.mk (Kept.refl w (fun k_ => P1_ k_))
  have HW0 := Aside0.mk hB.size
  have HB := Aside0.mk hB
  clear hB
  have H : ((some (([] : List ByteArray) : List ByteArray)).bind fun y205 => (if y205.length + l1.length < 8796093022208 then ((some (y205 ++ l1 : List ByteArray)).bind fun y208 => ((gatepostref11_Dots.f k a2).bind fun t211 => (if t211 = true then (gatepostref11_Add.j0 k a0 l1 a2 a3 y208 true) else ((gatepostref11_Dot.f k a2).bind fun t212 => (gatepostref11_Add.j0 k a0 l1 a2 a3 y208 t212))))) else (none))) = some r := h
  clear h
  obtain ⟨y205, hy205⟩ : ∃ y_ : List ByteArray, y_ = (([] : List ByteArray)) := ⟨_, rfl⟩
  replace H : (if y205.length + l1.length < 8796093022208 then ((some (y205 ++ l1 : List ByteArray)).bind fun y208 => ((gatepostref11_Dots.f k a2).bind fun t211 => (if t211 = true then (gatepostref11_Add.j0 k a0 l1 a2 a3 y208 true) else ((gatepostref11_Dot.f k a2).bind fun t212 => (gatepostref11_Add.j0 k a0 l1 a2 a3 y208 t212))))) else (none)) = some r := by first | (rw [hy205]; with_reducible exact H) | (have H2_ := (Option.bind_some _ _).symm.trans H; rw [hy205]; with_reducible exact H2_) | (have H2_ := (Option.bind_some _ _).symm.trans H; with_reducible exact H2_) | with_reducible exact H | (rw [hy205]; exact H) | exact H
  have Ny205 := Aside0.mk hy205
  clear hy205
  by_cases c5 : y205.length + l1.length < 8796093022208
  · rw [if_pos c5] at H
    have LMc5 := Aside0.mk c5
    clear c5
    obtain ⟨y208, hy208⟩ : ∃ y_ : List ByteArray, y_ = (y205 ++ l1) := ⟨_, rfl⟩
    replace H : ((gatepostref11_Dots.f k a2).bind fun t211 => (if t211 = true then (gatepostref11_Add.j0 k a0 l1 a2 a3 y208 true) else ((gatepostref11_Dot.f k a2).bind fun t212 => (gatepostref11_Add.j0 k a0 l1 a2 a3 y208 t212)))) = some r := by first | (rw [hy208]; with_reducible exact H) | (have H2_ := (Option.bind_some _ _).symm.trans H; rw [hy208]; with_reducible exact H2_) | (have H2_ := (Option.bind_some _ _).symm.trans H; with_reducible exact H2_) | with_reducible exact H | (rw [hy208]; exact H) | exact H
    have Ny208 := Aside0.mk hy208
    clear hy208
    have HC6 := Aside0.mk H
    clear H
    go_enter Try.func21, Try.ntmps21
    go_upto_region 2 with (first | ((with_reducible refine gate_dst (N := 10) rfl ?_); (try (refine gate_guard (by rfl) ?_; dsimp only)); refine Kd.R_lit Kd.string _ 9 ?hg (N := 10) ?hd (xs := ([] : List ByteArray)) (inner := []) (ok := fun _ => True) (okp := fun _ => True) ?hr ?hp (fun _ hk => hk) trivial (Below.refl _ _) (Nat.le_refl _) (by simp) ?_; (case hd => rfl); (case hg => rfl); (case hr => first | (go_simp; done) | (go_simp; rfl)); (case hp => exact (Reps.none _ _)); intro v206 w7 ho8 hb hg_ hnew_; clear hg_ hnew_; (first | rw [← Ny205.out] at ho8 | (simp only [Int.reduceToNat] at ho8; rw [← Ny205.out] at ho8)); have n0_ := Aside0.mk (Kd.R_elder' (by (with_reducible repeat (first | apply Kd.R_alloc | apply Kd.R_drewN | apply Kd.R_drew)); exact HO1.out) (Kd.R_base ho8) hb); have n1_ := Aside0.mk (Kd.R_lower (Kd.R_new' (Kd.R_newM (M := fun k_ => (P1_ k_ ∨ w.heap.size ≤ k_)) ho8 (by first | exact HK.out.1 | exact (show Kept w _ (fun k_ => P1_ k_) from by repeat (first | (with_reducible first | exact HK.out | apply Kept.alloc | apply Kept.drewN | apply Kept.drew) | exact HK.out)).1) (fun k_ h_ => .inr h_)) (Kd.R_lt (by (with_reducible repeat (first | apply Kd.R_alloc | apply Kd.R_drewN | apply Kd.R_drew)); exact HO1.out))) (below_size (by repeat (first | (with_reducible first | exact HB.out | apply below_alloc | apply pw_below_drewN | apply below_drew1) | exact HB.out)))); have n2_ := Aside0.mk (Kept.below (S := (fun k_ => P1_ k_)) (by repeat (first | (with_reducible first | exact HK.out | apply Kept.alloc | apply Kept.drewN | apply Kept.drew) | exact HK.out)) hb); have n3_ := Aside0.mk (below_step (by repeat (first | (with_reducible first | exact HB.out | apply below_alloc | apply pw_below_drewN | apply below_drew1) | exact HB.out)) hb); clear HO1; clear HK; clear HB; have HO1 := n0_; have HO207 := n1_; have HK := n2_; have HB := n3_; clear n0_ n1_ n2_ n3_; clear hb ho8; obtain ⟨Ao10, co10, eo10⟩ := Kd.R_slice HO1.out; subst eo10) | ((with_reducible refine gate_builtin (b := .append) (xs := #[.tmp 10, .tmp 11]) rfl ?_); (try (refine gate_guard (by rfl) ?_; dsimp only)); at_builtin; refine Kd.R_append_rows Kd.string (w0 := w0) w0.heap.size rfl (.tmp 10) (.tmp 11) 22 9 (.string ⟨#[]⟩) 16 rfl Try.underlying22 info9 rfl (by decide) (by omega) v206 y205 l1 _ _ _ (fun k_ => (P1_ k_ ∨ w.heap.size ≤ k_) ∧ some k_ ≠ (.slice Ao10 l1.length co10 : Value).ownBlock) (fun _ => False) rfl rfl ?aO ?aR (fun _ _ h => h) (fun _ h => h.elim) ?aF ?aB ?aS ?aL ?_; (case aR => repeat (first | exact (Kd.R_reads' HO1.out).2.2 | (with_reducible refine Kd.C_alloc ?_ _) | (with_reducible refine Kd.C_drewN ?_ _) | (with_reducible refine Kd.C_drew ?_))); (case aB => exact (by repeat (first | (with_reducible first | exact HB.out | apply below_alloc | apply pw_below_drewN | apply below_drew1) | exact HB.out))); (case aF => exact (fun k_ hk => ⟨(.inr (Nat.le_trans (by first | exact HK.out.1 | exact (show Kept w _ (fun k_ => P1_ k_) from by repeat (first | (with_reducible first | exact HK.out | apply Kept.alloc | apply Kept.drewN | apply Kept.drew) | exact HK.out)).1) hk)), Kd.fresh' (Kd.R_lt (by (with_reducible repeat (first | apply Kd.R_alloc | apply Kd.R_drewN | apply Kd.R_drew)); exact HO1.out)) k_ hk⟩)); (case aO => exact (by (with_reducible repeat (first | apply Kd.R_alloc | apply Kd.R_drewN | apply Kd.R_drew)); exact Kd.R_mono HO207.out (fun _ hk => ⟨hk.1.1, hk.2⟩))); (case aS => exact (below_size (by repeat (first | (with_reducible first | exact HB.out | apply below_alloc | apply pw_below_drewN | apply below_drew1) | exact HB.out)))); (case aL => have := LMc5.out; omega); intro v209 w9 ho hb hg hat; rw [← Ny208.out] at ho; have n0_ := Aside0.mk (Kd.R_after (ok := (fun k_ => (P1_ k_ ∨ w.heap.size ≤ k_))) (by (with_reducible repeat (first | apply Kd.R_alloc | apply Kd.R_drewN | apply Kd.R_drew)); exact HO1.out) hg hat); have n1_ := Aside0.mk (hb); have n2_ := Aside0.mk (Kept.of_grown (S := (fun k_ => P1_ k_)) hg (by repeat (first | (with_reducible first | exact HK.out | apply Kept.alloc | apply Kept.drewN | apply Kept.drew) | exact HK.out)) (fun k_ e_ => (HO207.out.1 k_ e_).1.1)); have n3_ := Aside0.mk (ho); clear HO1; clear HB; clear HK; clear HO207; have HO1 := n0_; have HB := n1_; have HK := n2_; have HO210 := n3_; clear n0_ n1_ n2_ n3_; clear ho hb hg hat))
    (try simp only [Act.put, List.setIfInBounds_toArray, List.set_cons_zero, List.set_cons_succ])
    go_cut [18] (fun v18 wc => ∃ (kq : Nat) (x18_5 : Bool), v18 = .bool x18_5 ∧ Aside0 (gatepostref11_Add.j0 kq a0 l1 a2 a3 y208 x18_5 = some r) ∧ Aside0 (kq ≤ k) ∧ Aside0 (Kd.R Kd.string 9 wc w0.heap.size (fun k_ => (P1_ k_ ∨ w.heap.size ≤ k_) ∧ some k_ ≠ (v209 : Value).ownBlock) (.slice Ao10 l1.length co10) l1) ∧ Aside0 (Kd.R Kd.string 9 wc w0.heap.size (fun k_ => (P1_ k_ ∨ w.heap.size ≤ k_) ∧ some k_ ≠ ((.slice Ao10 l1.length co10) : Value).ownBlock) v209 y208) ∧ Aside0 (Kept w wc (fun k_ => P1_ k_)) ∧ Aside0 (Below w0.heap.size w0 wc))
    case first =>
      have H := HC6.out
      clear HC6
      replace H := Option.bind_eq_some_iff.mp H
      obtain ⟨t211, A110, H⟩ := H
      replace H : (if t211 = true then (gatepostref11_Add.j0 k a0 l1 a2 a3 y208 true) else ((gatepostref11_Dot.f k a2).bind fun t212 => (gatepostref11_Add.j0 k a0 l1 a2 a3 y208 t212))) = some r := H
      have A11 := Aside0.mk A110
      clear A110
      by_cases c12 : t211 = true
      · subst c12
        have H1 : (gatepostref11_Add.j0 k a0 l1 a2 a3 y208 true) = some r := by rw [if_pos rfl] at H; exact H
        clear H
        have H := H1
        clear H1
        have H' := Aside0.mk H
        clear H
        go_wp2_with (first | ((with_reducible refine gate_callee (f := 17) rfl ?_); refine goesL_ (some 14) rfl rfl Try.func17 (by kernel_rfl) rfl #[.string a2] rfl (by (try simp only [List.map_toArray, List.map_cons, List.map_nil]); first | done | rfl | (simp only [List.length_drop, List.length_take]; rfl)) ?_; (with_reducible refine (gatepostref11_Dots.calls k a2 true _ A11.out).mono ?_); rintro e w13 ⟨rfl, hb⟩; refine ⟨_, rfl, ?_⟩; have n0_ := Aside0.mk (Kd.R_below (by (with_reducible repeat (first | apply Kd.R_alloc | apply Kd.R_drewN | apply Kd.R_drew)); exact HO1.out) hb); have n1_ := Aside0.mk (Kd.R_below (by (with_reducible repeat (first | apply Kd.R_alloc | apply Kd.R_drewN | apply Kd.R_drew)); exact HO210.out) hb); have n2_ := Aside0.mk (Kept.below (S := (fun k_ => P1_ k_)) (by repeat (first | (with_reducible first | exact HK.out | apply Kept.alloc | apply Kept.drewN | apply Kept.drew) | exact HK.out)) hb); have n3_ := Aside0.mk (below_step (by repeat (first | (with_reducible first | exact HB.out | apply below_alloc | apply pw_below_drewN | apply below_drew1) | exact HB.out)) hb); clear HO1; clear HO210; clear HK; clear HB; have HO1 := n0_; have HO210 := n1_; have HK := n2_; have HB := n3_; clear n0_ n1_ n2_ n3_; (try clear hb); (try clear hb2); (try clear hk); (try clear hi)))
        go_meet
        case rel => exact ⟨_, (true), (by first | rfl | (simp; done) | (simp [*]; done)), H', ⟨by first | omega | exact Nat.le_refl _⟩, ⟨by (with_reducible repeat (first | apply Kd.R_alloc | apply Kd.R_drewN | apply Kd.R_drew)); exact HO1.out⟩, ⟨by (with_reducible repeat (first | apply Kd.R_alloc | apply Kd.R_drewN | apply Kd.R_drew)); exact HO210.out⟩, ⟨by repeat (first | (with_reducible first | exact HK.out | apply Kept.alloc | apply Kept.drewN | apply Kept.drew) | exact HK.out)⟩, ⟨by repeat (first | (with_reducible first | exact HB.out | apply below_alloc | apply pw_below_drewN | apply below_drew1) | exact HB.out)⟩⟩
      · replace c12 := Bool.eq_false_iff.mpr c12
        subst c12
        have H1 : ((gatepostref11_Dot.f k a2).bind fun t212 => (gatepostref11_Add.j0 k a0 l1 a2 a3 y208 t212)) = some r := by rw [if_neg (show ¬ (false = true) by decide)] at H; exact H
        clear H
        have H := H1
        clear H1
        replace H := Option.bind_eq_some_iff.mp H
        obtain ⟨t212, A140, H⟩ := H
        replace H : (gatepostref11_Add.j0 k a0 l1 a2 a3 y208 t212) = some r := H
        have A14 := Aside0.mk A140
        clear A140
        have H' := Aside0.mk H
        clear H
        go_wp2_with (first | ((with_reducible refine gate_callee (f := 17) rfl ?_); refine goesL_ (some 14) rfl rfl Try.func17 (by kernel_rfl) rfl #[.string a2] rfl (by (try simp only [List.map_toArray, List.map_cons, List.map_nil]); first | done | rfl | (simp only [List.length_drop, List.length_take]; rfl)) ?_; (with_reducible refine (gatepostref11_Dots.calls k a2 false _ A11.out).mono ?_); rintro e w15 ⟨rfl, hb⟩; refine ⟨_, rfl, ?_⟩; have n0_ := Aside0.mk (Kd.R_below (by (with_reducible repeat (first | apply Kd.R_alloc | apply Kd.R_drewN | apply Kd.R_drew)); exact HO1.out) hb); have n1_ := Aside0.mk (Kd.R_below (by (with_reducible repeat (first | apply Kd.R_alloc | apply Kd.R_drewN | apply Kd.R_drew)); exact HO210.out) hb); have n2_ := Aside0.mk (Kept.below (S := (fun k_ => P1_ k_)) (by repeat (first | (with_reducible first | exact HK.out | apply Kept.alloc | apply Kept.drewN | apply Kept.drew) | exact HK.out)) hb); have n3_ := Aside0.mk (below_step (by repeat (first | (with_reducible first | exact HB.out | apply below_alloc | apply pw_below_drewN | apply below_drew1) | exact HB.out)) hb); clear HO1; clear HO210; clear HK; clear HB; have HO1 := n0_; have HO210 := n1_; have HK := n2_; have HB := n3_; clear n0_ n1_ n2_ n3_; (try clear hb); (try clear hb2); (try clear hk); (try clear hi)) | (go_at_call 16; (with_reducible refine (gatepostref11_Dot.calls k a2 t212 _ A14.out).mono ?_); rintro e w16 ⟨rfl, hb⟩; have n0_ := Aside0.mk (Kd.R_below (by (with_reducible repeat (first | apply Kd.R_alloc | apply Kd.R_drewN | apply Kd.R_drew)); exact HO1.out) hb); have n1_ := Aside0.mk (Kd.R_below (by (with_reducible repeat (first | apply Kd.R_alloc | apply Kd.R_drewN | apply Kd.R_drew)); exact HO210.out) hb); have n2_ := Aside0.mk (Kept.below (S := (fun k_ => P1_ k_)) (by repeat (first | (with_reducible first | exact HK.out | apply Kept.alloc | apply Kept.drewN | apply Kept.drew) | exact HK.out)) hb); have n3_ := Aside0.mk (below_step (by repeat (first | (with_reducible first | exact HB.out | apply below_alloc | apply pw_below_drewN | apply below_drew1) | exact HB.out)) hb); clear HO1; clear HO210; clear HK; clear HB; have HO1 := n0_; have HO210 := n1_; have HK := n2_; have HB := n3_; clear n0_ n1_ n2_ n3_; (try clear hb); (try clear hb2); (try clear hk); (try clear hi)))
        go_meet
        case rel => exact ⟨_, (t212), (by first | rfl | (simp; done) | (simp [*]; done)), H', ⟨by first | omega | exact Nat.le_refl _⟩, ⟨by (with_reducible repeat (first | apply Kd.R_alloc | apply Kd.R_drewN | apply Kd.R_drew)); exact HO1.out⟩, ⟨by (with_reducible repeat (first | apply Kd.R_alloc | apply Kd.R_drewN | apply Kd.R_drew)); exact HO210.out⟩, ⟨by repeat (first | (with_reducible first | exact HK.out | apply Kept.alloc | apply Kept.drewN | apply Kept.drew) | exact HK.out)⟩, ⟨by repeat (first | (with_reducible first | exact HB.out | apply below_alloc | apply pw_below_drewN | apply below_drew1) | exact HB.out)⟩⟩
    case rest =>
      clear HC6
      try clear c1
      try clear c2
      try clear p2
      try clear c5
      try clear c12
      obtain ⟨kq, x18_5, rfl, HA, HJ5, HO_1, HO_9, HK, HB⟩ := hcut
      cases kq with
      | zero => exact absurd HA.out (by simp [gatepostref11_Add.j0])
      | succ kj5 =>
        have H := HA.out
        clear HA
        simp only [gatepostref11_Add.j0] at H
        by_cases c17 : x18_5 = true
        · subst c17
          have H1 : ((gatepostref11_Dots.f kj5 a2).bind fun t213 => (if t213 = true then ((some (([] : List ByteArray) : List ByteArray)).bind fun y214 => ((gatepostref11_Shorten.f a0 l1).bind fun t217 => (if y214.length + t217.length < 8796093022208 then (gatepostref11_Add.j1 kj5 a3 (y214 ++ t217)) else (none)))) else (gatepostref11_Add.j1 kj5 a3 y208))) = some r := by rw [if_pos rfl] at H; exact H
          clear H
          have H := H1
          clear H1
          replace H := Option.bind_eq_some_iff.mp H
          obtain ⟨t213, A180, H⟩ := H
          replace H : (if t213 = true then ((some (([] : List ByteArray) : List ByteArray)).bind fun y214 => ((gatepostref11_Shorten.f a0 l1).bind fun t217 => (if y214.length + t217.length < 8796093022208 then (gatepostref11_Add.j1 kj5 a3 (y214 ++ t217)) else (none)))) else (gatepostref11_Add.j1 kj5 a3 y208)) = some r := H
          have A18 := Aside0.mk A180
          clear A180
          have HC19 := Aside0.mk H
          clear H
          go_upto_if 20 with (first | ((with_reducible refine gate_callee (f := 17) rfl ?_); refine goesL_ (some 20) rfl rfl Try.func17 (by kernel_rfl) rfl #[.string a2] rfl (by (try simp only [List.map_toArray, List.map_cons, List.map_nil]); first | done | rfl | (simp only [List.length_drop, List.length_take]; rfl)) ?_; (with_reducible refine (gatepostref11_Dots.calls kj5 a2 t213 _ A18.out).mono ?_); rintro e w20 ⟨rfl, hb⟩; refine ⟨_, rfl, ?_⟩; have n0_ := Aside0.mk (Kd.R_below (by (with_reducible repeat (first | apply Kd.R_alloc | apply Kd.R_drewN | apply Kd.R_drew)); exact HO_1.out) hb); have n1_ := Aside0.mk (Kd.R_below (by (with_reducible repeat (first | apply Kd.R_alloc | apply Kd.R_drewN | apply Kd.R_drew)); exact HO_9.out) hb); have n2_ := Aside0.mk (Kept.below (S := (fun k_ => P1_ k_)) (by repeat (first | (with_reducible first | exact HK.out | apply Kept.alloc | apply Kept.drewN | apply Kept.drew) | exact HK.out)) hb); have n3_ := Aside0.mk (below_step (by repeat (first | (with_reducible first | exact HB.out | apply below_alloc | apply pw_below_drewN | apply below_drew1) | exact HB.out)) hb); clear HO_1; clear HO_9; clear HK; clear HB; have HO_1 := n0_; have HO_9 := n1_; have HK := n2_; have HB := n3_; clear n0_ n1_ n2_ n3_; (try clear hb); (try clear hb2); (try clear hk); (try clear hi)))
          (try simp only [Act.put, List.setIfInBounds_toArray, List.set_cons_zero, List.set_cons_succ])
          go_cut [9] (fun v9 wc => ∃ (kq : Nat) (x9_18 : List ByteArray), Aside0 (gatepostref11_Add.j1 kq a3 x9_18 = some r) ∧ Aside0 (kq ≤ kj5) ∧ Aside0 (Kd.R Kd.string 9 wc w0.heap.size (fun k_ => (P1_ k_ ∨ w.heap.size ≤ k_)) v9 x9_18) ∧ Aside0 (Kept w wc (fun k_ => P1_ k_)) ∧ Aside0 (Below w0.heap.size w0 wc))
          case first =>
            have H := HC19.out
            clear HC19
            by_cases c21 : t213 = true
            · subst c21
              have H1 : ((some (([] : List ByteArray) : List ByteArray)).bind fun y214 => ((gatepostref11_Shorten.f a0 l1).bind fun t217 => (if y214.length + t217.length < 8796093022208 then (gatepostref11_Add.j1 kj5 a3 (y214 ++ t217)) else (none)))) = some r := by rw [if_pos rfl] at H; exact H
              clear H
              have H := H1
              clear H1
              obtain ⟨y214, hy214⟩ : ∃ y_ : List ByteArray, y_ = (([] : List ByteArray)) := ⟨_, rfl⟩
              replace H : ((gatepostref11_Shorten.f a0 l1).bind fun t217 => (if y214.length + t217.length < 8796093022208 then (gatepostref11_Add.j1 kj5 a3 (y214 ++ t217)) else (none))) = some r := by first | (rw [hy214]; with_reducible exact H) | (have H2_ := (Option.bind_some _ _).symm.trans H; rw [hy214]; with_reducible exact H2_) | (have H2_ := (Option.bind_some _ _).symm.trans H; with_reducible exact H2_) | with_reducible exact H | (rw [hy214]; exact H) | exact H
              have Ny214 := Aside0.mk hy214
              clear hy214
              replace H := Option.bind_eq_some_iff.mp H
              obtain ⟨t217, A220, H⟩ := H
              replace H : (if y214.length + t217.length < 8796093022208 then (gatepostref11_Add.j1 kj5 a3 (y214 ++ t217)) else (none)) = some r := H
              have A22 := Aside0.mk A220
              clear A220
              by_cases c23 : y214.length + t217.length < 8796093022208
              · rw [if_pos c23] at H
                have LMc23 := Aside0.mk c23
                clear c23
                obtain ⟨y220, hy220⟩ : ∃ y_ : List ByteArray, y_ = (y214 ++ t217) := ⟨_, rfl⟩
                replace H : (gatepostref11_Add.j1 kj5 a3 y220) = some r := by first | (rw [hy220]; with_reducible exact H) | (have H2_ := (Option.bind_some _ _).symm.trans H; rw [hy220]; with_reducible exact H2_) | (have H2_ := (Option.bind_some _ _).symm.trans H; with_reducible exact H2_) | with_reducible exact H | (rw [hy220]; exact H) | exact H
                have Ny220 := Aside0.mk hy220
                clear hy220
                have H' := Aside0.mk H
                clear H
                go_wp2_with (first | ((with_reducible refine gate_dst (N := 21) rfl ?_); (try (refine gate_guard (by rfl) ?_; dsimp only)); refine Kd.R_lit Kd.string _ 9 ?hg (N := 21) ?hd (xs := ([] : List ByteArray)) (inner := []) (ok := fun _ => True) (okp := fun _ => True) ?hr ?hp (fun _ hk => hk) trivial (Below.refl _ _) (Nat.le_refl _) (by simp) ?_; (case hd => rfl); (case hg => rfl); (case hr => first | (go_simp; done) | (go_simp; rfl)); (case hp => exact (Reps.none _ _)); intro v215 w24 ho25 hb hg_ hnew_; clear hg_ hnew_; (first | rw [← Ny214.out] at ho25 | (simp only [Int.reduceToNat] at ho25; rw [← Ny214.out] at ho25)); have n0_ := Aside0.mk (Kd.R_elder' (by (with_reducible repeat (first | apply Kd.R_alloc | apply Kd.R_drewN | apply Kd.R_drew)); exact HO_1.out) (Kd.R_base ho25) hb); have n1_ := Aside0.mk (Kd.R_elder' (by (with_reducible repeat (first | apply Kd.R_alloc | apply Kd.R_drewN | apply Kd.R_drew)); exact HO_9.out) (Kd.R_base ho25) hb); have n2_ := Aside0.mk (Kd.R_lower (Kd.R_new' (Kd.R_new' (Kd.R_newM (M := fun k_ => (P1_ k_ ∨ w.heap.size ≤ k_)) ho25 (by first | exact HK.out.1 | exact (show Kept w _ (fun k_ => P1_ k_) from by repeat (first | (with_reducible first | exact HK.out | apply Kept.alloc | apply Kept.drewN | apply Kept.drew) | exact HK.out)).1) (fun k_ h_ => .inr h_)) (Kd.R_lt (by (with_reducible repeat (first | apply Kd.R_alloc | apply Kd.R_drewN | apply Kd.R_drew)); exact HO_1.out))) (Kd.R_lt (by (with_reducible repeat (first | apply Kd.R_alloc | apply Kd.R_drewN | apply Kd.R_drew)); exact HO_9.out))) (below_size (by repeat (first | (with_reducible first | exact HB.out | apply below_alloc | apply pw_below_drewN | apply below_drew1) | exact HB.out)))); have n3_ := Aside0.mk (Kept.below (S := (fun k_ => P1_ k_)) (by repeat (first | (with_reducible first | exact HK.out | apply Kept.alloc | apply Kept.drewN | apply Kept.drew) | exact HK.out)) hb); have n4_ := Aside0.mk (below_step (by repeat (first | (with_reducible first | exact HB.out | apply below_alloc | apply pw_below_drewN | apply below_drew1) | exact HB.out)) hb); clear HO_1; clear HO_9; clear HK; clear HB; have HO_1 := n0_; have HO_9 := n1_; have HO216 := n2_; have HK := n3_; have HB := n4_; clear n0_ n1_ n2_ n3_ n4_; clear hb ho25) | ((with_reducible refine gate_callee (f := 22) rfl ?_); refine goesL_ (some 24) rfl rfl Try.func22 (by kernel_rfl) rfl #[.string a0, .slice Ao10 l1.length co10] rfl (by (try simp only [List.map_toArray, List.map_cons, List.map_nil]); first | done | rfl | (simp only [List.length_drop, List.length_take]; rfl)) ?_; (with_reducible refine (gatepostref11_Shorten.calls a0 (fun k_ => some k_ = (.slice Ao10 l1.length co10 : Value).ownBlock) (.slice Ao10 l1.length co10) l1 t217 w0 _ ?side1 ?side2 A22.out).mono ?_); (case side1 => repeat (first | (with_reducible first | exact HB.out | apply below_alloc | apply pw_below_drewN | apply below_drew1) | exact HB.out)); (case side2 => exact Kd.R_tight rfl HO_1.out); rintro e w26 ⟨v218, rfl, ho0, hb, hkp⟩; refine ⟨_, rfl, ?_⟩; have n0_ := Aside0.mk (Kd.R_mono (ok' := fun k_ => (P1_ k_ ∨ w.heap.size ≤ k_) ∧ some k_ ≠ (v215 : Value).ownBlock ∧ some k_ ≠ (v218 : Value).ownBlock) (Kd.R_keptB (HO_9.out) hkp (fun k_ hk_ hs_ => (hk_.1.2) hs_)) (fun k_ hk_ => ⟨hk_.1.1.1, hk_.1.2, fun e_ => Or.elim (ho0.1 k_ e_.symm) (fun hs_ => hk_.2.1 hs_) (fun hn_ => Nat.not_le.2 hk_.2.2 hn_)⟩)); have n1_ := Aside0.mk (Kd.R_mono (ok' := fun k_ => (P1_ k_ ∨ w.heap.size ≤ k_) ∧ some k_ ≠ (v209 : Value).ownBlock ∧ some k_ ≠ (v218 : Value).ownBlock) (Kd.R_keptB (HO216.out) hkp (fun k_ hk_ hs_ => (hk_.1.2) hs_)) (fun k_ hk_ => ⟨hk_.1.1.1.1, hk_.1.2, fun e_ => Or.elim (ho0.1 k_ e_.symm) (fun hs_ => hk_.2.1 hs_) (fun hn_ => Nat.not_le.2 hk_.2.2 hn_)⟩)); have n2_ := Aside0.mk (Kd.R_mono (ok' := fun k_ => (P1_ k_ ∨ w.heap.size ≤ k_) ∧ some k_ ≠ (v209 : Value).ownBlock ∧ some k_ ≠ (v215 : Value).ownBlock) ho0 (fun k_ hk_ => ⟨Or.elim hk_ (fun hs_ => (HO_1.out.1 k_ (hs_).symm).1.1) (fun hn_ => (.inr (Nat.le_trans (by first | exact HK.out.1 | exact (show Kept w _ (fun k_ => P1_ k_) from by repeat (first | (with_reducible first | exact HK.out | apply Kept.alloc | apply Kept.drewN | apply Kept.drew) | exact HK.out)).1) hn_))), Or.elim hk_ (fun hs_ => fun e_ => (((HO_9.out).1 k_ e_.symm).1.2) hs_) (fun hn_ => (Kd.fresh' (Kd.R_lt (by (with_reducible repeat (first | apply Kd.R_alloc | apply Kd.R_drewN | apply Kd.R_drew)); exact HO_9.out)) k_ hn_)), Or.elim hk_ (fun hs_ => fun e_ => (((HO216.out).1 k_ e_.symm).1.2) hs_) (fun hn_ => (Kd.fresh' (Kd.R_lt (by (with_reducible repeat (first | apply Kd.R_alloc | apply Kd.R_drewN | apply Kd.R_drew)); exact HO216.out)) k_ hn_))⟩)); have n3_ := Aside0.mk (Kept.then_ (S := (fun k_ => P1_ k_)) (by repeat (first | (with_reducible first | exact HK.out | apply Kept.alloc | apply Kept.drewN | apply Kept.drew) | exact HK.out)) hkp (fun k_ hs_ => (fun e_ => (HO_1.out.1 k_ e_.symm).1.1) hs_)); have n4_ := Aside0.mk (hb); clear HO_9; clear HO216; clear HK; clear HB; clear HO_1; have HO_9 := n0_; have HO216 := n1_; have HO219 := n2_; have HK := n3_; have HB := n4_; clear n0_ n1_ n2_ n3_ n4_; (try clear hb); (try clear hkp); (try clear ho0); obtain ⟨Ao28, co28, eo28⟩ := Kd.R_slice HO219.out; subst eo28) | ((with_reducible refine gate_builtin (b := .append) (xs := #[.tmp 21, .tmp 24]) rfl ?_); (try (refine gate_guard (by rfl) ?_; dsimp only)); at_builtin; refine Kd.R_append_rows Kd.string (w0 := w0) w0.heap.size rfl (.tmp 21) (.tmp 24) 22 9 (.string ⟨#[]⟩) 16 rfl Try.underlying22 info9 rfl (by decide) (by omega) v215 y214 t217 _ _ _ (fun k_ => (P1_ k_ ∨ w.heap.size ≤ k_) ∧ some k_ ≠ (v209 : Value).ownBlock ∧ some k_ ≠ (.slice Ao28 t217.length co28 : Value).ownBlock) (fun _ => False) rfl rfl ?aO ?aR (fun _ _ h => h) (fun _ h => h.elim) ?aF ?aB ?aS ?aL ?_; (case aR => repeat (first | exact (Kd.R_reads' HO219.out).2.2 | (with_reducible refine Kd.C_alloc ?_ _) | (with_reducible refine Kd.C_drewN ?_ _) | (with_reducible refine Kd.C_drew ?_))); (case aB => exact (by repeat (first | (with_reducible first | exact HB.out | apply below_alloc | apply pw_below_drewN | apply below_drew1) | exact HB.out))); (case aF => exact (fun k_ hk => ⟨(.inr (Nat.le_trans (by first | exact HK.out.1 | exact (show Kept w _ (fun k_ => P1_ k_) from by repeat (first | (with_reducible first | exact HK.out | apply Kept.alloc | apply Kept.drewN | apply Kept.drew) | exact HK.out)).1) hk)), Kd.fresh' (Kd.R_lt (by (with_reducible repeat (first | apply Kd.R_alloc | apply Kd.R_drewN | apply Kd.R_drew)); exact HO_9.out)) k_ hk, Kd.fresh' (Kd.R_lt (by (with_reducible repeat (first | apply Kd.R_alloc | apply Kd.R_drewN | apply Kd.R_drew)); exact HO219.out)) k_ hk⟩)); (case aO => exact (by (with_reducible repeat (first | apply Kd.R_alloc | apply Kd.R_drewN | apply Kd.R_drew)); exact HO216.out)); (case aS => exact (below_size (by repeat (first | (with_reducible first | exact HB.out | apply below_alloc | apply pw_below_drewN | apply below_drew1) | exact HB.out)))); (case aL => have := LMc23.out; omega); intro v221 w27 ho hb hg hat; rw [← Ny220.out] at ho; have n0_ := Aside0.mk (Kd.R_after (ok := (fun k_ => (P1_ k_ ∨ w.heap.size ≤ k_) ∧ some k_ ≠ (.slice Ao28 t217.length co28 : Value).ownBlock)) (by (with_reducible repeat (first | apply Kd.R_alloc | apply Kd.R_drewN | apply Kd.R_drew)); exact Kd.R_mono HO_9.out (fun _ hk => ⟨⟨hk.1, hk.2.2⟩, hk.2.1⟩)) hg hat); have n1_ := Aside0.mk (Kd.R_after (ok := (fun k_ => (P1_ k_ ∨ w.heap.size ≤ k_) ∧ some k_ ≠ (v209 : Value).ownBlock)) (by (with_reducible repeat (first | apply Kd.R_alloc | apply Kd.R_drewN | apply Kd.R_drew)); exact Kd.R_mono HO219.out (fun _ hk => ⟨⟨hk.1, hk.2.1⟩, hk.2.2⟩)) hg hat); have n2_ := Aside0.mk (hb); have n3_ := Aside0.mk (Kept.of_grown (S := (fun k_ => P1_ k_)) hg (by repeat (first | (with_reducible first | exact HK.out | apply Kept.alloc | apply Kept.drewN | apply Kept.drew) | exact HK.out)) (fun k_ e_ => (HO216.out.1 k_ e_).1)); have n4_ := Aside0.mk (ho); clear HO_9; clear HO219; clear HB; clear HK; clear HO216; have HO_9 := n0_; have HO219 := n1_; have HB := n2_; have HK := n3_; have HO222 := n4_; clear n0_ n1_ n2_ n3_ n4_; clear ho hb hg hat))
                go_meet
                case rel => exact ⟨_, (y220), H', ⟨by have := HJ5.out; first | omega | exact Nat.le_refl _⟩, ⟨by (with_reducible repeat (first | apply Kd.R_alloc | apply Kd.R_drewN | apply Kd.R_drew)); exact Kd.R_mono HO222.out (fun _ hk => hk.1)⟩, ⟨by repeat (first | (with_reducible first | exact HK.out | apply Kept.alloc | apply Kept.drewN | apply Kept.drew) | exact HK.out)⟩, ⟨by repeat (first | (with_reducible first | exact HB.out | apply below_alloc | apply pw_below_drewN | apply below_drew1) | exact HB.out)⟩⟩
              · rw [if_neg c23] at H
                exact absurd H (by simp)
            · replace c21 := Bool.eq_false_iff.mpr c21
              subst c21
              have H1 : (gatepostref11_Add.j1 kj5 a3 y208) = some r := by rw [if_neg (show ¬ (false = true) by decide)] at H; exact H
              clear H
              have H := H1
              clear H1
              have H' := Aside0.mk H
              clear H
              go_wp2
              go_meet
              case rel => exact ⟨_, (y208), H', ⟨by have := HJ5.out; first | omega | exact Nat.le_refl _⟩, ⟨by (with_reducible repeat (first | apply Kd.R_alloc | apply Kd.R_drewN | apply Kd.R_drew)); exact Kd.R_mono HO_9.out (fun _ hk => hk.1)⟩, ⟨by repeat (first | (with_reducible first | exact HK.out | apply Kept.alloc | apply Kept.drewN | apply Kept.drew) | exact HK.out)⟩, ⟨by repeat (first | (with_reducible first | exact HB.out | apply below_alloc | apply pw_below_drewN | apply below_drew1) | exact HB.out)⟩⟩
          case rest =>
            clear HC19
            try clear c1
            try clear c2
            try clear p2
            try clear c5
            try clear c12
            try clear c17
            try clear c21
            try clear c22
            try clear c23
            try clear p2
            obtain ⟨kq, x9_18, HA, HJ18, HO_9, HK, HB⟩ := hcut
            cases kq with
            | zero => exact absurd HA.out (by simp [gatepostref11_Add.j1])
            | succ kj18 =>
              have H := HA.out
              clear HA
              simp only [gatepostref11_Add.j1] at H
              by_cases c29 : a3 = true
              · subst c29
                have H1 : (if x9_18.length < 8796093022208 then (some (x9_18 ++ [(⟨#[]⟩ : ByteArray)])) else (none)) = some r := by rw [if_pos rfl] at H; exact H
                clear H
                have H := H1
                clear H1
                by_cases c30 : x9_18.length < 8796093022208
                · rw [if_pos c30] at H
                  have LMc30 := Aside0.mk c30
                  clear c30
                  obtain ⟨y223, hy223⟩ : ∃ y_ : List ByteArray, y_ = (x9_18 ++ [(⟨#[]⟩ : ByteArray)]) := ⟨_, rfl⟩
                  replace H : (some y223) = some r := by first | (rw [hy223]; with_reducible exact H) | (have H2_ := (Option.bind_some _ _).symm.trans H; rw [hy223]; with_reducible exact H2_) | (have H2_ := (Option.bind_some _ _).symm.trans H; with_reducible exact H2_) | with_reducible exact H | (rw [hy223]; exact H) | exact H
                  have Ny223 := Aside0.mk hy223
                  clear hy223
                  obtain rfl := Option.some.inj H
                  go_wp2_with (first | ((with_reducible refine gate_builtin (b := .append) (xs := #[.tmp 27, .tmp 28]) rfl ?_); (try (refine gate_guard (by rfl) ?_; dsimp only)); at_builtin; refine Kd.R_append Kd.string (w0 := w0) w0.heap.size rfl (.tmp 27) (.tmp 28) 22 9 (.string ⟨#[]⟩) 16 rfl Try.underlying22 info9 rfl (by decide) (by omega) u9 x9_18 (⟨#[]⟩ : ByteArray) [.string (⟨#[]⟩ : ByteArray)] (fun k_ => (P1_ k_ ∨ w.heap.size ≤ k_)) (fun _ => False) rfl rfl ?aP (fun _ hk => hk.elim) ?aF ?aO ?aB ?aS ?aL ?_; (case aP => exact rfl); (case aB => exact (by repeat (first | (with_reducible first | exact HB.out | apply below_alloc | apply pw_below_drewN | apply below_drew1) | exact HB.out))); (case aF => exact (fun k_ hk => (.inr (Nat.le_trans (by first | exact HK.out.1 | exact (show Kept w _ (fun k_ => P1_ k_) from by repeat (first | (with_reducible first | exact HK.out | apply Kept.alloc | apply Kept.drewN | apply Kept.drew) | exact HK.out)).1) hk)))); (case aO => exact (by (with_reducible repeat (first | apply Kd.R_alloc | apply Kd.R_drewN | apply Kd.R_drew)); exact HO_9.out)); (case aS => exact (below_size (by repeat (first | (with_reducible first | exact HB.out | apply below_alloc | apply pw_below_drewN | apply below_drew1) | exact HB.out)))); (case aL => have := LMc30.out; omega); intro v224 w31 ho hb hg hat; rw [← Ny223.out] at ho; have n0_ := Aside0.mk (hb); have n1_ := Aside0.mk (Kept.of_grown (S := (fun k_ => P1_ k_)) hg (by repeat (first | (with_reducible first | exact HK.out | apply Kept.alloc | apply Kept.drewN | apply Kept.drew) | exact HK.out)) (fun k_ e_ => (HO_9.out.1 k_ e_))); have n2_ := Aside0.mk (ho); clear HB; clear HK; clear HO_9; have HB := n0_; have HK := n1_; have HO225 := n2_; clear n0_ n1_ n2_; clear ho hb hg hat))
                  go_ret
                  exact ⟨_, by first | rfl | (simp [errW_none, errW_some] <;> rfl) | (simp [*, errW_none, errW_some] <;> rfl), by (with_reducible repeat (first | apply Kd.R_alloc | apply Kd.R_drewN | apply Kd.R_drew)); exact HO225.out, by repeat (first | (with_reducible first | exact HB.out | apply below_alloc | apply pw_below_drewN | apply below_drew1) | exact HB.out), by repeat (first | (with_reducible first | exact HK.out | apply Kept.alloc | apply Kept.drewN | apply Kept.drew) | exact HK.out)⟩
                · rw [if_neg c30] at H
                  exact absurd H (by simp)
              · replace c29 := Bool.eq_false_iff.mpr c29
                subst c29
                have H1 : (some x9_18) = some r := by rw [if_neg (show ¬ (false = true) by decide)] at H; exact H
                clear H
                have H := H1
                clear H1
                obtain rfl := Option.some.inj H
                go_wp2
                go_ret
                exact ⟨_, by first | rfl | (simp [errW_none, errW_some] <;> rfl) | (simp [*, errW_none, errW_some] <;> rfl), by (with_reducible repeat (first | apply Kd.R_alloc | apply Kd.R_drewN | apply Kd.R_drew)); exact HO_9.out, by repeat (first | (with_reducible first | exact HB.out | apply below_alloc | apply pw_below_drewN | apply below_drew1) | exact HB.out), by repeat (first | (with_reducible first | exact HK.out | apply Kept.alloc | apply Kept.drewN | apply Kept.drew) | exact HK.out)⟩
        · replace c17 := Bool.eq_false_iff.mpr c17
          subst c17
          have H1 : (if a0.toList = ([102, 105, 108, 101] : List UInt8) then (if (l1.length : Int) = 0 then ((gatepostref11_Drive.f a2).bind fun t226 => (if t226 = true then (if 0 ≤ 1 then (if 1 ≤ (a2.size : Int) then (if (a2.extract 0 1).size + 1 ≤ 9223372036854775807 then (some (([(a2.extract 0 1) ++ (⟨#[58]⟩ : ByteArray)] : List ByteArray))) else (none)) else (none)) else (none)) else (if y208.length < 8796093022208 then (some (y208 ++ [a2])) else (none)))) else (if y208.length < 8796093022208 then (some (y208 ++ [a2])) else (none))) else (if y208.length < 8796093022208 then (some (y208 ++ [a2])) else (none))) = some r := by rw [if_neg (show ¬ (false = true) by decide)] at H; exact H
          clear H
          have H := H1
          clear H1
          by_cases c32 : a0.toList = ([102, 105, 108, 101] : List UInt8)
          · rw [if_pos c32] at H
            have c32b0 : (a0.toList == ([102, 105, 108, 101] : List UInt8)) = true := beq_iff_eq.mpr c32
            have c32b1 : (a0.toList != ([102, 105, 108, 101] : List UInt8)) = false := bne_eq_false_iff_eq.mpr c32
            clear c32
            by_cases c33 : (l1.length : Int) = 0
            · rw [if_pos c33] at H
              have c33b0 : ((l1.length : Int) == 0) = true := beq_iff_eq.mpr c33
              have c33b1 : ((l1.length : Int) != 0) = false := bne_eq_false_iff_eq.mpr c33
              clear c33
              replace H := Option.bind_eq_some_iff.mp H
              obtain ⟨t226, A340, H⟩ := H
              replace H : (if t226 = true then (if 0 ≤ 1 then (if 1 ≤ (a2.size : Int) then (if (a2.extract 0 1).size + 1 ≤ 9223372036854775807 then (some (([(a2.extract 0 1) ++ (⟨#[58]⟩ : ByteArray)] : List ByteArray))) else (none)) else (none)) else (none)) else (if y208.length < 8796093022208 then (some (y208 ++ [a2])) else (none))) = some r := H
              have A34 := Aside0.mk A340
              clear A340
              by_cases c35 : t226 = true
              · subst c35
                have H1 : (if 0 ≤ 1 then (if 1 ≤ (a2.size : Int) then (if (a2.extract 0 1).size + 1 ≤ 9223372036854775807 then (some (([(a2.extract 0 1) ++ (⟨#[58]⟩ : ByteArray)] : List ByteArray))) else (none)) else (none)) else (none)) = some r := by rw [if_pos rfl] at H; exact H
                clear H
                have H := H1
                clear H1
                by_cases c36 : 0 ≤ 1
                · rw [if_pos c36] at H
                  have c36b0 := eq_true c36
                  have c36b1 : decide (0 ≤ 1) = true := decide_eq_true c36
                  clear c36
                  by_cases c37 : 1 ≤ (a2.size : Int)
                  · rw [if_pos c37] at H
                    have c37b0 := eq_true c37
                    have c37b1 : decide (1 ≤ (a2.size : Int)) = true := decide_eq_true c37
                    clear c37
                    by_cases c38 : (a2.extract 0 1).size + 1 ≤ 9223372036854775807
                    · rw [if_pos c38] at H
                      have c38b0 := eq_true c38
                      have c38b1 : decide ((a2.extract 0 1).size + 1 ≤ 9223372036854775807) = true := decide_eq_true c38
                      try have c38b2 : (9223372036854775807 < (a2.extract 0 1).size + 1) = False := eq_false (Nat.not_lt.2 c38)
                      obtain ⟨y227, hy227⟩ : ∃ y_ : List ByteArray, y_ = (([(a2.extract 0 1) ++ (⟨#[58]⟩ : ByteArray)] : List ByteArray)) := ⟨_, rfl⟩
                      replace H : (some y227) = some r := by first | (rw [hy227]; with_reducible exact H) | (have H2_ := (Option.bind_some _ _).symm.trans H; rw [hy227]; with_reducible exact H2_) | (have H2_ := (Option.bind_some _ _).symm.trans H; with_reducible exact H2_) | with_reducible exact H | (rw [hy227]; exact H) | exact H
                      have Ny227 := Aside0.mk hy227
                      clear hy227
                      obtain rfl := Option.some.inj H
                      go_wp2_with (first | (go_at_call 18; (with_reducible refine (gatepostref11_Drive.calls a2 true _ A34.out).mono ?_); rintro e w' ⟨rfl, ⟨nd, rfl⟩⟩) | ((with_reducible refine gate_dst (N := 45) rfl ?_); (try (refine gate_guard (by rfl) ?_; dsimp only)); refine Kd.R_lit Kd.string _ 9 ?hg (N := 45) ?hd (xs := ([(a2.extract 0 1) ++ (⟨#[58]⟩ : ByteArray)] : List ByteArray)) (inner := [.string ((a2.extract 0 1) ++ (⟨#[58]⟩ : ByteArray))]) (ok := fun _ => True) (okp := fun _ => True) ?hr ?hp (fun _ hk => hk) trivial (Below.refl _ _) (Nat.le_refl _) (by simp) ?_; (case hd => rfl); (case hg => rfl); (case hr => first | (go_simp; done) | (go_simp; rfl)); (case hp => exact (Reps.one (show Kd.M Kd.string _ _ _ ((a2.extract 0 1) ++ (⟨#[58]⟩ : ByteArray)) [.string ((a2.extract 0 1) ++ (⟨#[58]⟩ : ByteArray))] from rfl) (Reps.none _ _))); intro v228 w39 ho40 hb hg_ hnew_; clear hg_ hnew_; (first | rw [← Ny227.out] at ho40 | (simp only [Int.reduceToNat] at ho40; rw [← Ny227.out] at ho40)); have n0_ := Aside0.mk (Kd.R_elder' (by (with_reducible repeat (first | apply Kd.R_alloc | apply Kd.R_drewN | apply Kd.R_drew)); exact HO_1.out) (Kd.R_base ho40) hb); have n1_ := Aside0.mk (Kd.R_elder' (by (with_reducible repeat (first | apply Kd.R_alloc | apply Kd.R_drewN | apply Kd.R_drew)); exact HO_9.out) (Kd.R_base ho40) hb); have n2_ := Aside0.mk (Kd.R_lower (Kd.R_new' (Kd.R_new' (Kd.R_newM (M := fun k_ => (P1_ k_ ∨ w.heap.size ≤ k_)) ho40 (by first | exact HK.out.1 | exact (show Kept w _ (fun k_ => P1_ k_) from by repeat (first | (with_reducible first | exact HK.out | apply Kept.alloc | apply Kept.drewN | apply Kept.drew) | exact HK.out)).1) (fun k_ h_ => .inr h_)) (Kd.R_lt (by (with_reducible repeat (first | apply Kd.R_alloc | apply Kd.R_drewN | apply Kd.R_drew)); exact HO_1.out))) (Kd.R_lt (by (with_reducible repeat (first | apply Kd.R_alloc | apply Kd.R_drewN | apply Kd.R_drew)); exact HO_9.out))) (below_size (by repeat (first | (with_reducible first | exact HB.out | apply below_alloc | apply pw_below_drewN | apply below_drew1) | exact HB.out)))); have n3_ := Aside0.mk (Kept.below (S := (fun k_ => P1_ k_)) (by repeat (first | (with_reducible first | exact HK.out | apply Kept.alloc | apply Kept.drewN | apply Kept.drew) | exact HK.out)) hb); have n4_ := Aside0.mk (below_step (by repeat (first | (with_reducible first | exact HB.out | apply below_alloc | apply pw_below_drewN | apply below_drew1) | exact HB.out)) hb); clear HO_1; clear HO_9; clear HK; clear HB; have HO_1 := n0_; have HO_9 := n1_; have HO229 := n2_; have HK := n3_; have HB := n4_; clear n0_ n1_ n2_ n3_ n4_; clear hb ho40))
                      go_ret
                      exact ⟨_, by first | rfl | (simp [errW_none, errW_some] <;> rfl) | (simp [*, errW_none, errW_some] <;> rfl), by (with_reducible repeat (first | apply Kd.R_alloc | apply Kd.R_drewN | apply Kd.R_drew)); exact Kd.R_mono HO229.out (fun _ hk => hk.1.1.1), by repeat (first | (with_reducible first | exact HB.out | apply below_alloc | apply pw_below_drewN | apply below_drew1) | exact HB.out), by repeat (first | (with_reducible first | exact HK.out | apply Kept.alloc | apply Kept.drewN | apply Kept.drew) | exact HK.out)⟩
                    · rw [if_neg c38] at H
                      exact absurd H (by simp)
                  · rw [if_neg c37] at H
                    exact absurd H (by simp)
                · rw [if_neg c36] at H
                  exact absurd H (by simp)
              · replace c35 := Bool.eq_false_iff.mpr c35
                subst c35
                have H1 : (if y208.length < 8796093022208 then (some (y208 ++ [a2])) else (none)) = some r := by rw [if_neg (show ¬ (false = true) by decide)] at H; exact H
                clear H
                have H := H1
                clear H1
                by_cases c41 : y208.length < 8796093022208
                · rw [if_pos c41] at H
                  have LMc41 := Aside0.mk c41
                  clear c41
                  obtain ⟨y230, hy230⟩ : ∃ y_ : List ByteArray, y_ = (y208 ++ [a2]) := ⟨_, rfl⟩
                  replace H : (some y230) = some r := by first | (rw [hy230]; with_reducible exact H) | (have H2_ := (Option.bind_some _ _).symm.trans H; rw [hy230]; with_reducible exact H2_) | (have H2_ := (Option.bind_some _ _).symm.trans H; with_reducible exact H2_) | with_reducible exact H | (rw [hy230]; exact H) | exact H
                  have Ny230 := Aside0.mk hy230
                  clear hy230
                  obtain rfl := Option.some.inj H
                  go_wp2_with (first | (go_at_call 18; (with_reducible refine (gatepostref11_Drive.calls a2 false _ A34.out).mono ?_); rintro e w' ⟨rfl, ⟨nd, rfl⟩⟩) | ((with_reducible refine gate_builtin (b := .append) (xs := #[.tmp 46, .tmp 48]) rfl ?_); (try (refine gate_guard (by rfl) ?_; dsimp only)); at_builtin; refine Kd.R_append Kd.string (w0 := w0) w0.heap.size rfl (.tmp 46) (.tmp 48) 22 9 (.string ⟨#[]⟩) 16 rfl Try.underlying22 info9 rfl (by decide) (by omega) v209 y208 a2 [.string a2] (fun k_ => (P1_ k_ ∨ w.heap.size ≤ k_) ∧ some k_ ≠ (.slice Ao10 l1.length co10 : Value).ownBlock) (fun _ => False) rfl rfl ?aP (fun _ hk => hk.elim) ?aF ?aO ?aB ?aS ?aL ?_; (case aP => exact rfl); (case aB => exact (by repeat (first | (with_reducible first | exact HB.out | apply below_alloc | apply pw_below_drewN | apply below_drew1) | exact HB.out))); (case aF => exact (fun k_ hk => ⟨(.inr (Nat.le_trans (by first | exact HK.out.1 | exact (show Kept w _ (fun k_ => P1_ k_) from by repeat (first | (with_reducible first | exact HK.out | apply Kept.alloc | apply Kept.drewN | apply Kept.drew) | exact HK.out)).1) hk)), Kd.fresh' (Kd.R_lt (by (with_reducible repeat (first | apply Kd.R_alloc | apply Kd.R_drewN | apply Kd.R_drew)); exact HO_1.out)) k_ hk⟩)); (case aO => exact (by (with_reducible repeat (first | apply Kd.R_alloc | apply Kd.R_drewN | apply Kd.R_drew)); exact HO_9.out)); (case aS => exact (below_size (by repeat (first | (with_reducible first | exact HB.out | apply below_alloc | apply pw_below_drewN | apply below_drew1) | exact HB.out)))); (case aL => have := LMc41.out; omega); intro v231 w42 ho hb hg hat; rw [← Ny230.out] at ho; have n0_ := Aside0.mk (Kd.R_after (ok := (fun k_ => (P1_ k_ ∨ w.heap.size ≤ k_))) (by (with_reducible repeat (first | apply Kd.R_alloc | apply Kd.R_drewN | apply Kd.R_drew)); exact HO_1.out) hg hat); have n1_ := Aside0.mk (hb); have n2_ := Aside0.mk (Kept.of_grown (S := (fun k_ => P1_ k_)) hg (by repeat (first | (with_reducible first | exact HK.out | apply Kept.alloc | apply Kept.drewN | apply Kept.drew) | exact HK.out)) (fun k_ e_ => (HO_9.out.1 k_ e_).1)); have n3_ := Aside0.mk (ho); clear HO_1; clear HB; clear HK; clear HO_9; have HO_1 := n0_; have HB := n1_; have HK := n2_; have HO232 := n3_; clear n0_ n1_ n2_ n3_; clear ho hb hg hat))
                  go_ret
                  exact ⟨_, by first | rfl | (simp [errW_none, errW_some] <;> rfl) | (simp [*, errW_none, errW_some] <;> rfl), by (with_reducible repeat (first | apply Kd.R_alloc | apply Kd.R_drewN | apply Kd.R_drew)); exact Kd.R_mono HO232.out (fun _ hk => hk.1), by repeat (first | (with_reducible first | exact HB.out | apply below_alloc | apply pw_below_drewN | apply below_drew1) | exact HB.out), by repeat (first | (with_reducible first | exact HK.out | apply Kept.alloc | apply Kept.drewN | apply Kept.drew) | exact HK.out)⟩
                · rw [if_neg c41] at H
                  exact absurd H (by simp)
            · rw [if_neg c33] at H
              have c33b0 : ((l1.length : Int) == 0) = false := beq_eq_false_iff_ne.mpr c33
              have c33b1 : ((l1.length : Int) != 0) = true := bne_iff_ne.mpr c33
              have c33b2 : ¬ (l1 = []) := fun h_ => c33 (by rw [h_]; rfl)
              by_cases c43 : y208.length < 8796093022208
              · rw [if_pos c43] at H
                have LMc43 := Aside0.mk c43
                clear c43
                obtain ⟨y233, hy233⟩ : ∃ y_ : List ByteArray, y_ = (y208 ++ [a2]) := ⟨_, rfl⟩
                replace H : (some y233) = some r := by first | (rw [hy233]; with_reducible exact H) | (have H2_ := (Option.bind_some _ _).symm.trans H; rw [hy233]; with_reducible exact H2_) | (have H2_ := (Option.bind_some _ _).symm.trans H; with_reducible exact H2_) | with_reducible exact H | (rw [hy233]; exact H) | exact H
                have Ny233 := Aside0.mk hy233
                clear hy233
                obtain rfl := Option.some.inj H
                go_wp2_with (first | ((with_reducible refine gate_builtin (b := .append) (xs := #[.tmp 46, .tmp 48]) rfl ?_); (try (refine gate_guard (by rfl) ?_; dsimp only)); at_builtin; refine Kd.R_append Kd.string (w0 := w0) w0.heap.size rfl (.tmp 46) (.tmp 48) 22 9 (.string ⟨#[]⟩) 16 rfl Try.underlying22 info9 rfl (by decide) (by omega) v209 y208 a2 [.string a2] (fun k_ => (P1_ k_ ∨ w.heap.size ≤ k_) ∧ some k_ ≠ (.slice Ao10 l1.length co10 : Value).ownBlock) (fun _ => False) rfl rfl ?aP (fun _ hk => hk.elim) ?aF ?aO ?aB ?aS ?aL ?_; (case aP => exact rfl); (case aB => exact (by repeat (first | (with_reducible first | exact HB.out | apply below_alloc | apply pw_below_drewN | apply below_drew1) | exact HB.out))); (case aF => exact (fun k_ hk => ⟨(.inr (Nat.le_trans (by first | exact HK.out.1 | exact (show Kept w _ (fun k_ => P1_ k_) from by repeat (first | (with_reducible first | exact HK.out | apply Kept.alloc | apply Kept.drewN | apply Kept.drew) | exact HK.out)).1) hk)), Kd.fresh' (Kd.R_lt (by (with_reducible repeat (first | apply Kd.R_alloc | apply Kd.R_drewN | apply Kd.R_drew)); exact HO_1.out)) k_ hk⟩)); (case aO => exact (by (with_reducible repeat (first | apply Kd.R_alloc | apply Kd.R_drewN | apply Kd.R_drew)); exact HO_9.out)); (case aS => exact (below_size (by repeat (first | (with_reducible first | exact HB.out | apply below_alloc | apply pw_below_drewN | apply below_drew1) | exact HB.out)))); (case aL => have := LMc43.out; omega); intro v234 w44 ho hb hg hat; rw [← Ny233.out] at ho; have n0_ := Aside0.mk (Kd.R_after (ok := (fun k_ => (P1_ k_ ∨ w.heap.size ≤ k_))) (by (with_reducible repeat (first | apply Kd.R_alloc | apply Kd.R_drewN | apply Kd.R_drew)); exact HO_1.out) hg hat); have n1_ := Aside0.mk (hb); have n2_ := Aside0.mk (Kept.of_grown (S := (fun k_ => P1_ k_)) hg (by repeat (first | (with_reducible first | exact HK.out | apply Kept.alloc | apply Kept.drewN | apply Kept.drew) | exact HK.out)) (fun k_ e_ => (HO_9.out.1 k_ e_).1)); have n3_ := Aside0.mk (ho); clear HO_1; clear HB; clear HK; clear HO_9; have HO_1 := n0_; have HB := n1_; have HK := n2_; have HO235 := n3_; clear n0_ n1_ n2_ n3_; clear ho hb hg hat))
                go_ret
                exact ⟨_, by first | rfl | (simp [errW_none, errW_some] <;> rfl) | (simp [*, errW_none, errW_some] <;> rfl), by (with_reducible repeat (first | apply Kd.R_alloc | apply Kd.R_drewN | apply Kd.R_drew)); exact Kd.R_mono HO235.out (fun _ hk => hk.1), by repeat (first | (with_reducible first | exact HB.out | apply below_alloc | apply pw_below_drewN | apply below_drew1) | exact HB.out), by repeat (first | (with_reducible first | exact HK.out | apply Kept.alloc | apply Kept.drewN | apply Kept.drew) | exact HK.out)⟩
              · rw [if_neg c43] at H
                exact absurd H (by simp)
          · rw [if_neg c32] at H
            have c32b0 : (a0.toList == ([102, 105, 108, 101] : List UInt8)) = false := beq_eq_false_iff_ne.mpr c32
            have c32b1 : (a0.toList != ([102, 105, 108, 101] : List UInt8)) = true := bne_iff_ne.mpr c32
            by_cases c45 : y208.length < 8796093022208
            · rw [if_pos c45] at H
              have LMc45 := Aside0.mk c45
              clear c45
              obtain ⟨y236, hy236⟩ : ∃ y_ : List ByteArray, y_ = (y208 ++ [a2]) := ⟨_, rfl⟩
              replace H : (some y236) = some r := by first | (rw [hy236]; with_reducible exact H) | (have H2_ := (Option.bind_some _ _).symm.trans H; rw [hy236]; with_reducible exact H2_) | (have H2_ := (Option.bind_some _ _).symm.trans H; with_reducible exact H2_) | with_reducible exact H | (rw [hy236]; exact H) | exact H
              have Ny236 := Aside0.mk hy236
              clear hy236
              obtain rfl := Option.some.inj H
              go_wp2_with (first | ((with_reducible refine gate_builtin (b := .append) (xs := #[.tmp 46, .tmp 48]) rfl ?_); (try (refine gate_guard (by rfl) ?_; dsimp only)); at_builtin; refine Kd.R_append Kd.string (w0 := w0) w0.heap.size rfl (.tmp 46) (.tmp 48) 22 9 (.string ⟨#[]⟩) 16 rfl Try.underlying22 info9 rfl (by decide) (by omega) v209 y208 a2 [.string a2] (fun k_ => (P1_ k_ ∨ w.heap.size ≤ k_) ∧ some k_ ≠ (.slice Ao10 l1.length co10 : Value).ownBlock) (fun _ => False) rfl rfl ?aP (fun _ hk => hk.elim) ?aF ?aO ?aB ?aS ?aL ?_; (case aP => exact rfl); (case aB => exact (by repeat (first | (with_reducible first | exact HB.out | apply below_alloc | apply pw_below_drewN | apply below_drew1) | exact HB.out))); (case aF => exact (fun k_ hk => ⟨(.inr (Nat.le_trans (by first | exact HK.out.1 | exact (show Kept w _ (fun k_ => P1_ k_) from by repeat (first | (with_reducible first | exact HK.out | apply Kept.alloc | apply Kept.drewN | apply Kept.drew) | exact HK.out)).1) hk)), Kd.fresh' (Kd.R_lt (by (with_reducible repeat (first | apply Kd.R_alloc | apply Kd.R_drewN | apply Kd.R_drew)); exact HO_1.out)) k_ hk⟩)); (case aO => exact (by (with_reducible repeat (first | apply Kd.R_alloc | apply Kd.R_drewN | apply Kd.R_drew)); exact HO_9.out)); (case aS => exact (below_size (by repeat (first | (with_reducible first | exact HB.out | apply below_alloc | apply pw_below_drewN | apply below_drew1) | exact HB.out)))); (case aL => have := LMc45.out; omega); intro v237 w46 ho hb hg hat; rw [← Ny236.out] at ho; have n0_ := Aside0.mk (Kd.R_after (ok := (fun k_ => (P1_ k_ ∨ w.heap.size ≤ k_))) (by (with_reducible repeat (first | apply Kd.R_alloc | apply Kd.R_drewN | apply Kd.R_drew)); exact HO_1.out) hg hat); have n1_ := Aside0.mk (hb); have n2_ := Aside0.mk (Kept.of_grown (S := (fun k_ => P1_ k_)) hg (by repeat (first | (with_reducible first | exact HK.out | apply Kept.alloc | apply Kept.drewN | apply Kept.drew) | exact HK.out)) (fun k_ e_ => (HO_9.out.1 k_ e_).1)); have n3_ := Aside0.mk (ho); clear HO_1; clear HB; clear HK; clear HO_9; have HO_1 := n0_; have HB := n1_; have HK := n2_; have HO238 := n3_; clear n0_ n1_ n2_ n3_; clear ho hb hg hat))
              go_ret
              exact ⟨_, by first | rfl | (simp [errW_none, errW_some] <;> rfl) | (simp [*, errW_none, errW_some] <;> rfl), by (with_reducible repeat (first | apply Kd.R_alloc | apply Kd.R_drewN | apply Kd.R_drew)); exact Kd.R_mono HO238.out (fun _ hk => hk.1), by repeat (first | (with_reducible first | exact HB.out | apply below_alloc | apply pw_below_drewN | apply below_drew1) | exact HB.out), by repeat (first | (with_reducible first | exact HK.out | apply Kept.alloc | apply Kept.drewN | apply Kept.drew) | exact HK.out)⟩
            · rw [if_neg c45] at H
              exact absurd H (by simp)
  · rw [if_neg c5] at H
    exact absurd H (by simp)

/-! ### gatepostref11_All: function 26 -/
def gatepostref11_All.l0 : Nat → ByteArray → List ByteArray → List ByteArray → Int → Option (List ByteArray)
  | 0, _, _, _, _ => none
  | k + 1, x0, x1, x5, x6 => if x6 < (x1.length : Int) then (if 0 ≤ x6 then ((gatepostref11_Add.f k x0 x5 (rdOf ByteArray.empty x1 x6) (x6 == (wrap64 ((x1.length : Int) - 1)))).bind fun t240 => (gatepostref11_All.l0 k x0 x1 t240 (wrap64 (x6 + 1)))) else (none)) else (some x5)
def gatepostref11_All.f (k : Nat) (a0 : ByteArray) (l1 : List ByteArray) : Option (List ByteArray) := gatepostref11_All.l0 k a0 l1 ([] : List ByteArray) 0
theorem gatepostref11_All.mono_l : ∀ k, (∀ y0 y1 y2 y3, LeO (gatepostref11_All.l0 k y0 y1 y2 y3) (gatepostref11_All.l0 (k + 1) y0 y1 y2 y3))
  | 0 => fun _ _ _ _ r h => by simp [gatepostref11_All.l0] at h
  | k + 1 => by
    have ih0 := gatepostref11_All.mono_l k
    · intro y0 y1 y2 y3
      unfold gatepostref11_All.l0
      repeat' first
      | (with_reducible exact ih0 _ _ _ _)
      | (with_reducible exact gatepostref11_Add.mono _ _ _ _ _)
      | (with_reducible exact LeO.refl _)
      | (with_reducible exact LeO.none _)
      | (with_reducible refine LeO.ite ?_ ?_)
      | (with_reducible refine LeO.bind ?_ (fun _ => ?_))
      | exact ih0 _ _ _ _
      | exact gatepostref11_Add.mono _ _ _ _ _
      | exact LeO.none _
      | refine LeO.ite ?_ ?_
      | refine LeO.bind ?_ (fun _ => ?_)
theorem gatepostref11_All.mono : ∀ a0 a1 k, LeO (gatepostref11_All.f k a0 a1) (gatepostref11_All.f (k + 1) a0 a1) := by
  intro a0 a1 k
  have ih0 := gatepostref11_All.mono_l k
  unfold gatepostref11_All.f
  repeat' first
      | (with_reducible exact ih0 _ _ _ _)
      | (with_reducible exact gatepostref11_Add.mono _ _ _ _ _)
      | (with_reducible exact LeO.refl _)
      | (with_reducible exact LeO.none _)
      | (with_reducible refine LeO.ite ?_ ?_)
      | (with_reducible refine LeO.bind ?_ (fun _ => ?_))
      | exact ih0 _ _ _ _
      | exact gatepostref11_Add.mono _ _ _ _ _
      | exact LeO.none _
      | refine LeO.ite ?_ ?_
      | refine LeO.bind ?_ (fun _ => ?_)
set_option maxHeartbeats 8000000 in
set_option maxRecDepth 100000 in
theorem gatepostref11_All.calls (k : Nat) (a0 : ByteArray) (A1 : Option Addr) (c1 : Nat) (l1 : List ByteArray) (r : List ByteArray) (w : World) (hr1 : Kd.C Kd.string w A1 l1.length l1) (hc1 : l1.length ≤ c1) (h : gatepostref11_All.f k a0 l1 = some r) :
    Calls Try.prog 26 #[.string a0, .slice A1 l1.length c1] w fun e w' => ∃ v0_ : Value, e = .returned (v0_) ∧ Kd.R Kd.string 9 w' w.heap.size (fun _ => True) v0_ r ∧ Below w.heap.size w w' := by
  have HR1 := Aside0.mk hr1
  have HC1 := Aside0.mk hc1
  clear hr1 hc1
  have HB := Aside0.mk (Below.refl w.heap.size w)
  have H : (gatepostref11_All.l0 k a0 l1 ([] : List ByteArray) 0) = some r := h
  clear h
  have H' := Aside0.mk H
  clear H
  go_enter Try.func26, Try.ntmps26
  go_wp2
  go_loopg [5, 6] k (fun kq v5 v6 w' => ∃ (x5_1 : List ByteArray) (x6_1 : Int), v6 = .int .i64 x6_1 ∧ Aside0 (gatepostref11_All.l0 kq a0 l1 x5_1 x6_1 = some r) ∧ Aside0 (kq ≤ k) ∧ Aside0 (Kd.R Kd.string 9 w' w.heap.size (fun _ => True) v5 x5_1) ∧ Aside0 (Below w.heap.size w w'))
  case atStart => exact ⟨(([] : List ByteArray)), (0), (by first | rfl | (simp; done) | (simp [*]; done)), H', ⟨Nat.le_refl _⟩, ⟨by first | exact Kd.R_nil _ _ _ _ _ | exact Kd.N_nil _ _ _ _ _ | exact Kd.V_nil _ _ _ _ _ | exact Kd.Q_nil _ _ _ _ _ | exact Kd.S_nil _ _ _ _ _⟩, ⟨by repeat (first | (with_reducible first | exact HB.out | apply below_alloc | apply pw_below_drewN | apply below_drew1) | exact HB.out)⟩⟩
  case round =>
    clear H'
    try clear c1
    try clear c2
    try clear p2
    obtain ⟨x5_1, x6_1, rfl, HA, HK1, HO_5, HB⟩ := hrel
    cases gk with
    | zero => exact absurd HA.out (by simp [gatepostref11_All.l0])
    | succ k1 =>
      have H := HA.out
      clear HA
      simp only [gatepostref11_All.l0] at H
      by_cases c3 : x6_1 < (l1.length : Int)
      · rw [if_pos c3] at H
        have c3b0 : decide (x6_1 < (l1.length : Int)) = true := decide_eq_true c3
        clear c3
        by_cases c4 : 0 ≤ x6_1
        · rw [if_pos c4] at H
          have c4b0 : decide (0 ≤ x6_1) = true := decide_eq_true c4
          clear c4
          replace H := Option.bind_eq_some_iff.mp H
          obtain ⟨t240, A50, H⟩ := H
          replace H : (gatepostref11_All.l0 k1 a0 l1 t240 (wrap64 (x6_1 + 1))) = some r := H
          have A5 := Aside0.mk A50
          clear A50
          have H' := Aside0.mk H
          clear H
          have p239 : 0 ≤ (x6_1 : Int) := of_decide_eq_true (by first | (with_reducible assumption) | assumption)
          have q239 : x6_1 < (l1.length : Int) := of_decide_eq_true (by first | (with_reducible assumption) | assumption)
          obtain ⟨ad239, e239, hx239_0⟩ := Kd.at_string HR1.out x6_1 p239 q239
          cases e239
          replace hx239_0 := (HB.out.cell (World.block_lt_of_cell? w _ hx239_0)).trans hx239_0
          replace p239 := eq_true p239
          replace q239 := eq_true q239
          obtain ⟨Ao6, co6, eo6⟩ := Kd.R_slice HO_5.out
          subst eo6
          go_wp2_with (first | ((with_reducible refine gate_callee (f := 21) rfl ?_); refine goesL_ (some 24) rfl rfl Try.func21 (by kernel_rfl) rfl #[.string a0, .slice Ao6 x5_1.length co6, .string (rdOf ByteArray.empty l1 x6_1), .bool (x6_1 == (wrap64 ((l1.length : Int) - 1)))] rfl (by (try simp only [List.map_toArray, List.map_cons, List.map_nil]); first | done | rfl | (simp only [List.length_drop, List.length_take]; rfl)) ?_; (with_reducible refine (gatepostref11_Add.calls k1 a0 (fun k_ => some k_ = (.slice Ao6 x5_1.length co6 : Value).ownBlock) (.slice Ao6 x5_1.length co6) x5_1 (rdOf ByteArray.empty l1 x6_1) (x6_1 == (wrap64 ((l1.length : Int) - 1))) t240 w _ ?side1 ?side2 A5.out).mono ?_); (case side1 => repeat (first | (with_reducible first | exact HB.out | apply below_alloc | apply pw_below_drewN | apply below_drew1) | exact HB.out)); (case side2 => exact Kd.R_tight rfl HO_5.out); rintro e w7 ⟨v241, rfl, ho0, hb, hkp⟩; refine ⟨_, rfl, ?_⟩; have n0_ := Aside0.mk (Kd.R_mono (ok' := fun k_ => True) ho0 (fun k_ hk_ => trivial)); have n1_ := Aside0.mk (hb); clear HB; clear HO_5; have HO242 := n0_; have HB := n1_; clear n0_ n1_; (try clear hb); (try clear hkp); (try clear ho0)))
          go_roundg k1
          case measure => have := HK1.out; omega
          case rel => exact ⟨(t240), (wrap64 (x6_1 + 1)), (by first | rfl | (simp; done) | (simp [*]; done)), H', ⟨by have := HK1.out; omega⟩, ⟨by (with_reducible repeat (first | apply Kd.R_alloc | apply Kd.R_drewN | apply Kd.R_drew)); exact HO242.out⟩, ⟨by repeat (first | (with_reducible first | exact HB.out | apply below_alloc | apply pw_below_drewN | apply below_drew1) | exact HB.out)⟩⟩
        · rw [if_neg c4] at H
          exact absurd H (by simp)
      · rw [if_neg c3] at H
        have c3b0 : decide (x6_1 < (l1.length : Int)) = false := decide_eq_false c3
        clear c3
        obtain rfl := Option.some.inj H
        go_wp2
        go_ret
        exact ⟨_, by first | rfl | (simp [errW_none, errW_some] <;> rfl) | (simp [*, errW_none, errW_some] <;> rfl), by (with_reducible repeat (first | apply Kd.R_alloc | apply Kd.R_drewN | apply Kd.R_drew)); exact HO_5.out, by repeat (first | (with_reducible first | exact HB.out | apply below_alloc | apply pw_below_drewN | apply below_drew1) | exact HB.out)⟩

end Go.Proofs.Ytedkaedeahobjaa.PPth
