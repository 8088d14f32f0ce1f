/- The law function SchedLocks, walked by hand: it returns true. -/
import Derived.Test.YtglafngeeggeeaaWho
namespace Go.Proofs.Ytglafngeeggeeaa
open Go.RowKit Go.Proofs.YtglafngeeggeeaaW.PrintWords Go.Proofs.Ytglafngeeggeeaa.PSch
set_option linter.unusedVariables false
set_option linter.unusedSimpArgs false

set_option maxRecDepth 100000 in
set_option maxHeartbeats 4000000 in
theorem locks_some (A0 : Option Addr) (c0 : Nat) (raw : List (List Int)) (A1 : Option Addr) (c1 : Nat) (picks : List Int) (w : World) (hr0 : Kd.C (Kd.slice 5 (Kd.int .u8)) w A0 raw.length raw) (hc0 : raw.length ≤ c0) (hr1 : Kd.C (Kd.int .i64) w A1 picks.length picks) (hc1 : picks.length ≤ c1)
    (k : Nat) (hawake : gatepostlaw22_awake.f k = some true) (hp : picks.length ≤ 100) (ts : List (List Int)) (hts : gatepostref22_Whole.f k raw = some ts) (hF : FewT ts) (hm : may ts = true) (hPT : ∀ t ∈ ts, PT t 18) :
    Calls Try.prog 6 #[.slice A0 raw.length c0, .slice A1 picks.length c1] w fun e w' => e = .returned (.bool true) ∧ Below w.heap.size w w' := by
  have hord := order_f ts picks hF (by omega)
  change _ = some (turnsOf ts picks) at hord
  have HR0 := Aside0.mk hr0
  have HC0 := Aside0.mk hc0
  have HR1 := Aside0.mk hr1
  have HC1 := Aside0.mk hc1
  have HB := Aside0.mk (Below.refl w.heap.size w)
  have HAw := Aside0.mk hawake
  have HW := Aside0.mk hts
  have HOr := Aside0.mk hord
  have HF := Aside0.mk hF
  have HM := Aside0.mk hm
  have HP := Aside0.mk hPT
  clear hr0 hc0 hr1 hc1 hawake hts hF hm hPT hord
  have b0 : decide ((picks.length : Int) > 100) = false := decide_eq_false (by omega)
  have b1 : decide (100 < (picks.length : Int)) = false := decide_eq_false (by omega)
  have b2 : decide (100 < picks.length) = false := decide_eq_false (by omega)
  go_enter Try.func6, Try.ntmps6
  go_wp2_with (first | (go_at_call 8; (with_reducible refine (gatepostlaw22_awake.calls k true _ HAw.out).mono ?_); rintro e w5 ⟨rfl, hb⟩; have n0_ := Aside0.mk (below_step HB.out hb); clear HB; have HB := n0_; clear n0_ hb) | (go_at_call 17; refine (gatepostref22_Whole.calls k _ _ raw ts _ (Kd.C_below HR0.out HB.out) HC0.out HW.out).mono ?_; rintro e w6 ⟨v6, rfl, ho, hb⟩; have n0_ := Aside0.mk (below_step HB.out hb); have HO6 := Aside0.mk ho; clear HB; have HB := n0_; clear n0_ hb ho; obtain ⟨Ao6, co6, eo6⟩ := Kd.S_slice HO6.out; subst eo6) | (go_at_call 11; refine (sched_Order.calls _ _ ts _ _ picks _ _ ((Kd.S_reads' HO6.out).2.2) ((Kd.S_reads' HO6.out).2.1) (Kd.C_below HR1.out HB.out) HC1.out HOr.out).mono ?_; rintro e w7 ⟨v7, rfl, ho, hb⟩; have HO7 := Aside0.mk ho; have HB7 := Aside0.mk hb; have n0_ := Aside0.mk (below_step HB.out hb); clear HB; have HB := n0_; clear n0_ hb ho; obtain ⟨Ao7, co7, eo7⟩ := Kd.R_slice HO7.out; subst eo7))
  have hCts := Aside0.mk (Kd.C_below (Kd.S_reads' HO6.out).2.2 HB7.out)
  have hCl := Aside0.mk (Kd.R_reads' HO7.out).2.2
  have hlen := turns_len ts picks HF.out
  have hLP := LP.start ts picks HM.out
  clear HO6 HO7 HB7 HOr HW HAw HM
  generalize turnsOf ts picks = l at *
  go_loopw [9] (fun v9 wr => ∃ (pre : List S37) (W : Int → Int), v9 = .int .i64 (pre.length : Int) ∧ LP ts picks l pre W ∧ Below w7.heap.size w7 wr ∧ wr.heap[w7.heap.size]? = some (.cells #[.int .i64 0, .int .i64 (W 1), .int .i64 (W 2), .int .i64 (W 3)] 38 (0, 0))) (fun v9 _ => l.length - (intOf v9).toNat)
  case atStart => exact ⟨[], fun _ => 0, rfl, hLP, (Below.refl _ w7).alloc (Nat.le_refl _) _, blk_new _ _⟩
  case round =>
    obtain ⟨pre, W, rfl, hP, hbw, hblk⟩ := hrel
    have hrd := LP.round HF.out HP.out hP
    have HBW := Aside0.mk hbw
    have HBK := Aside0.mk hblk
    have k0 : wr.cell? ⟨w7.heap.size, 0, none⟩ = some (.int .i64 0) := by have := cell_of_row wr w7.heap.size 0 _ _ _ hblk; simpa using this
    have k1 : wr.cell? ⟨w7.heap.size, 1, none⟩ = some (.int .i64 (W 1)) := by have := cell_of_row wr w7.heap.size 1 _ _ _ hblk; simpa using this
    have k2 : wr.cell? ⟨w7.heap.size, 2, none⟩ = some (.int .i64 (W 2)) := by have := cell_of_row wr w7.heap.size 2 _ _ _ hblk; simpa using this
    have k3 : wr.cell? ⟨w7.heap.size, 3, none⟩ = some (.int .i64 (W 3)) := by have := cell_of_row wr w7.heap.size 3 _ _ _ hblk; simpa using this
    clear hP hbw hblk hLP
    rcases hrd with ⟨he, hz⟩ | ⟨hlt, z, p, s, z0, z1, p0, p1, hg, hs, hs3, hsp, hsn, hnext⟩
    · have c1 : decide ((pre.length : Int) < (l.length : Int)) = false := decide_eq_false (by omega)
      have c2 : decide (pre.length < l.length) = false := decide_eq_false (by omega)
      rw [hz 1] at k1
      rw [hz 2] at k2
      rw [hz 3] at k3
      clear hz
      have heq : ∀ W : World, (Op.equalIn 10000 38 (.agg #[.int .i64 0, .int .i64 0, .int .i64 0, .int .i64 0]) (.agg #[.int .i64 0, .int .i64 0, .int .i64 0, .int .i64 0])).run Try.prog W = .ok true W := fun W => by kernel_rfl
      go_wp2
      go_ret
      exact ⟨rfl, HB.out.trans (HBW.out.mono HB.out.size)⟩
    · have c1 : decide ((pre.length : Int) < (l.length : Int)) = true := decide_eq_true (by omega)
      have c2 : decide (pre.length < l.length) = true := decide_eq_true hlt
      obtain ⟨a7, e7, hx0, hx1⟩ := at_T37 hCl.out (pre.length : Int) (by omega) (by omega)
      cases e7
      rw [rd_T37_nat, hg] at hx0 hx1
      have hx0' := pw_cell_below HBW.out hx0
      have hx1' := pw_cell_below HBW.out hx1
      rw [Int.toNat_natCast] at hx0' hx1'
      dsimp only at hx0' hx1'
      obtain ⟨a6, A6, c6, e6, hy0, hy1, hy2⟩ := at_L1 hCts.out z z0 z1
      cases e6
      obtain ⟨a5, e5, hv⟩ := Kd.at_int hy2 p p0 p1
      cases e5
      rw [hs] at hv
      have hy0' := pw_cell_below HBW.out hy0
      have hv' := pw_cell_below HBW.out hv
      clear hx0 hx1 hy0 hy1 hy2 hv hg hs
      have hlz : (rd_L1 ts z).length ≤ 1000 := (HF.out.2 _ (rd_L1_mem ts z z0 z1)).1
      have hNN := HF.out.1
      generalize (rd_L1 ts z).length = lz at *
      have d1 : decide (z < 0) = false := decide_eq_false (by omega)
      have d2 : decide ((ts.length : Int) ≤ z) = false := decide_eq_false (by omega)
      have d3 : decide (p < 0) = false := decide_eq_false (by omega)
      have d4 : decide ((lz : Int) ≤ p) = false := decide_eq_false (by omega)
      have z2 : z < 1001 := by omega
      have p2 : p < 1001 := by omega
      have HN := Aside0.mk hnext
      clear hnext
      have hlt' := hlt
      have hcase : s = 0 ∨ s = 1 ∨ s = 2 ∨ s = 3 ∨ s = -1 ∨ s = -2 ∨ s = -3 := by omega
      clear hs3 hNN hlz hlt
      have q0 := eq_true z0
      have q1 := eq_true z1
      have q2 := eq_true p0
      have q3 := eq_true p1
      have q4 := eq_true hlt'
      have fz : ∀ j, wr.frozen? ⟨w7.heap.size, j, none⟩ = false := fun j => by simp [World.frozen?, HBK.out]
      have f1 := fz 1
      have f2 := fz 2
      have f3 := fz 3
      clear fz
      rcases hcase with rfl | rfl | rfl | rfl | rfl | rfl | rfl
      · clear hsp hsn
        go_wp2
        repeat (go_quiet (fail); try go_wp2)
        refine ⟨⟨pre ++ [⟨z, p⟩], put W (0) z, by simp, HN.out, ?_, ?_⟩, by simp [intOf]; omega⟩
        · exact pw_below_drewN HBW.out _
        · have hb := HBK.out
          simpa [put] using hb
      · have h0 := hsp (by decide)
        rw [h0] at k1
        clear hsp hsn h0
        go_wp2
        repeat (go_quiet (fail); try go_wp2)
        refine ⟨⟨pre ++ [⟨z, p⟩], put W (1) z, by simp, HN.out, ?_, ?_⟩, by simp [intOf]; omega⟩
        · exact Below.setCell (pw_below_drewN HBW.out _) (Nat.le_refl _) _
        · have hb := HBK.out
          simp [World.setCell, Array.getElem?_modify, hb, put]
      · have h0 := hsp (by decide)
        rw [h0] at k2
        clear hsp hsn h0
        go_wp2
        repeat (go_quiet (fail); try go_wp2)
        refine ⟨⟨pre ++ [⟨z, p⟩], put W (2) z, by simp, HN.out, ?_, ?_⟩, by simp [intOf]; omega⟩
        · exact Below.setCell (pw_below_drewN HBW.out _) (Nat.le_refl _) _
        · have hb := HBK.out
          simp [World.setCell, Array.getElem?_modify, hb, put]
      · have h0 := hsp (by decide)
        rw [h0] at k3
        clear hsp hsn h0
        go_wp2
        repeat (go_quiet (fail); try go_wp2)
        refine ⟨⟨pre ++ [⟨z, p⟩], put W (3) z, by simp, HN.out, ?_, ?_⟩, by simp [intOf]; omega⟩
        · exact Below.setCell (pw_below_drewN HBW.out _) (Nat.le_refl _) _
        · have hb := HBK.out
          simp [World.setCell, Array.getElem?_modify, hb, put]
      · have h0 : W 1 = z + 1 := hsn (by decide)
        rw [h0] at k1
        clear hsp hsn h0
        go_wp2
        repeat (go_quiet (fail); try go_wp2)
        refine ⟨⟨pre ++ [⟨z, p⟩], put W (-1) z, by simp, HN.out, ?_, ?_⟩, by simp [intOf]; omega⟩
        · exact Below.setCell (pw_below_drewN HBW.out _) (Nat.le_refl _) _
        · have hb := HBK.out
          simp [World.setCell, Array.getElem?_modify, hb, put]
      · have h0 : W 2 = z + 1 := hsn (by decide)
        rw [h0] at k2
        clear hsp hsn h0
        go_wp2
        repeat (go_quiet (fail); try go_wp2)
        refine ⟨⟨pre ++ [⟨z, p⟩], put W (-2) z, by simp, HN.out, ?_, ?_⟩, by simp [intOf]; omega⟩
        · exact Below.setCell (pw_below_drewN HBW.out _) (Nat.le_refl _) _
        · have hb := HBK.out
          simp [World.setCell, Array.getElem?_modify, hb, put]
      · have h0 : W 3 = z + 1 := hsn (by decide)
        rw [h0] at k3
        clear hsp hsn h0
        go_wp2
        repeat (go_quiet (fail); try go_wp2)
        refine ⟨⟨pre ++ [⟨z, p⟩], put W (-3) z, by simp, HN.out, ?_, ?_⟩, by simp [intOf]; omega⟩
        · exact Below.setCell (pw_below_drewN HBW.out _) (Nat.le_refl _) _
        · have hb := HBK.out
          simp [World.setCell, Array.getElem?_modify, hb, put]
set_option maxRecDepth 100000 in
set_option maxHeartbeats 4000000 in
theorem locks_many (A0 : Option Addr) (c0 n0 : Nat) (A1 : Option Addr) (c1 n1 : Nat) (w : World) (k : Nat) (hawake : gatepostlaw22_awake.f k = some true) (hp : ¬ n1 ≤ 100) :
    Calls Try.prog 6 #[.slice A0 n0 c0, .slice A1 n1 c1] w fun e w' => e = .returned (.bool true) ∧ Below w.heap.size w w' := by
  have HB := Aside0.mk (Below.refl w.heap.size w)
  have HAw := Aside0.mk hawake
  clear hawake
  have b0 : decide ((n1 : Int) > 100) = true := decide_eq_true (by omega)
  have b1 : decide (100 < (n1 : Int)) = true := decide_eq_true (by omega)
  have b2 : decide (100 < n1) = true := decide_eq_true (by omega)
  go_enter Try.func6, Try.ntmps6
  go_wp2_with (first | (go_at_call 8; (with_reducible refine (gatepostlaw22_awake.calls k true _ HAw.out).mono ?_); rintro e w5 ⟨rfl, hb⟩; have n0_ := Aside0.mk (below_step HB.out hb); clear HB; have HB := n0_; clear n0_ hb))
  go_ret
  exact ⟨rfl, HB.out⟩
/-- SchedLocks returns true. -/
theorem locks_true (A0 : Option Addr) (c0 : Nat) (raw : List (List Int)) (A1 : Option Addr) (c1 : Nat) (picks : List Int) (w : World) (hr0 : Kd.C (Kd.slice 5 (Kd.int .u8)) w A0 raw.length raw) (hc0 : raw.length ≤ c0) (hr1 : Kd.C (Kd.int .i64) w A1 picks.length picks) (hc1 : picks.length ≤ c1)
    (hw : ∀ t ∈ raw, ∀ x ∈ t, 0 ≤ x ∧ x ≤ 255) : Calls Try.prog 6 #[.slice A0 raw.length c0, .slice A1 picks.length c1] w fun e w' => e = .returned (.bool true) ∧ Below w.heap.size w w' := by
  obtain ⟨k0, h0⟩ := awake_f
  by_cases hp : picks.length ≤ 100
  · obtain ⟨ts, ⟨hF, hm, _, hPT⟩, k1, h1⟩ := whole_f raw hw
    exact locks_some A0 c0 raw A1 c1 picks w hr0 hc0 hr1 hc1 (k0 + k1) (h0 _ (by omega)) hp ts (h1 _ (by omega)) hF hm hPT
  · exact locks_many A0 c0 _ A1 c1 _ w k0 (h0 _ (Nat.le_refl _)) hp
end Go.Proofs.Ytglafngeeggeeaa
