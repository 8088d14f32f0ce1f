/- The contract of (*run).do: a task's next step is done. By hand. -/
import Derived.Test.YtglafngeeggeeaaCan
namespace Go.Proofs.Ytglafngeeggeeaa
open Go.RowKit Go.Proofs.YtglafngeeggeeaaW.PrintWords Go.Proofs.Ytglafngeeggeeaa.PSch
open Go.Maps (Keyed)
set_option linter.unusedVariables false
set_option linter.unusedSimpArgs false
theorem turned_cell {w w' : World} {b i : Nat} (h : w.mapTurned w' b) (hi : i ≠ b) (hlt : i < w.heap.size) (o : Nat) : w'.cell? ⟨i, o, none⟩ = w.cell? ⟨i, o, none⟩ :=
  World.cell?_of_block (turned_block h hi hlt)
set_option maxHeartbeats 1000000 in
theorem do_zero {B : Nat} {w0 w : World} {gr ga bm : Nat} {aT : Addr} {N c0 : Nat} {xs : List Int} {L : Int → Option Int} {q : Nat}
    (hR : Run B w0 w gr ga bm (some aT) N c0 xs L q) (hB : B ≤ w.heap.size) (hN : N ≤ 1000000) (n p s c : Int) (h0 : 0 ≤ n) (h1 : n < (N : Int)) (aR : Addr) (len cR : Nat)
    (hp : rd xs n = p) (hp0 : 0 ≤ p) (hp1 : p < (len : Int)) (hlen : len ≤ 1000000)
    (hrow : w.cell? (aT.add n.toNat) = some (.slice (some aR) len cR)) (hstep : w.cell? (aR.add p.toNat) = some (.int .i64 s)) (ok : Bool) (hs0 : decide (s < 0) = false) (hs1 : decide (0 < s) = false)
    (hlook : ∀ m, (Instr.lookup 43 (.map (some bm)) (.int .i64 (wrap64 (-s))) true).run Try.prog ((w.alloc (.cells #[.int .i64 0, .int .i64 0] 37)).drewN m) = .ok (.tuple #[.int .i64 c, .bool ok]) ((w.alloc (.cells #[.int .i64 0, .int .i64 0] 37)).drewN m)) :
    Calls Try.prog 19 #[.pointer (some ⟨gr, 0, none⟩), .int .i64 n] w fun e w' => e = .returned (.agg #[.int .i64 n, .int .i64 p]) ∧ (Run B w0 w' gr ga bm (some aT) N c0 (xs.set n.toNat (p + 1)) L q) ∧ (w.heap.size ≤ w'.heap.size ∧ ∀ i, i < w.heap.size → i ≠ ga → i ≠ bm → w'.heap[i]? = w.heap[i]?) := by
  have hR1 := hR.alloc hB (.cells #[.int .i64 0, .int .i64 0] 37)
  have hne := hR.gr_ga
  have hgo : ∀ (W : World) (j : Nat) (u : Value) (o : Nat), (W.setCell ⟨ga, j, none⟩ u).cell? ⟨gr, o, none⟩ = W.cell? ⟨gr, o, none⟩ := fun W j u o => World.cell?_setCell_other _ _ _ _ (by intro e; injection e with e; exact hne e.symm)
  have hgt : ∀ (W : World) (j : Nat) (u : Value) (o : Nat), (W.setCell ⟨ga, j, none⟩ u).cell? ⟨w.heap.size, o, none⟩ = W.cell? ⟨w.heap.size, o, none⟩ := fun W j u o => World.cell?_setCell_other _ _ _ _ (by intro e; injection e with e; have := lt_of_heap hR.row; omega)
  have l1 := lt_of_heap hR.run
  have l2 := lt_of_heap hR.row
  have l3 := hR.lk.lt
  have c0' := hR1.cell0
  have c1' := hR1.cell1
  have c2' := hR1.cell2
  have ca' := hR1.at_ n h0 h1
  rw [hp] at ca'
  have hbl : Below w.heap.size w (w.alloc (.cells #[.int .i64 0, .int .i64 0] 37)) := (Below.refl _ _).alloc (Nat.le_refl _) _
  have cr' := pw_cell_below hbl hrow
  have cs' := pw_cell_below hbl hstep
  have fa' := hR1.frozen_at n.toNat
  have HR1 := Lib.hid hR1
  have HB := Lib.hid hB
  have HL := Lib.hid (And.intro l1 (And.intro l2 l3))
  clear hR1 hR hp hrow hstep hbl hne hB l1 l2 l3
  have b1 : p < 1000001 := by omega
  have b2 : -1 < p := by omega
  replace h0 := eq_true h0
  replace h1 := eq_true h1
  replace hp0 := eq_true hp0
  replace hp1 := eq_true hp1
  go_enter Try.func19, Try.ntmps19
  go_wp2
  go_quiet (fail)
  go_wp2
  all_goals
    refine bodyPost_ret (v := .agg #[.int .i64 n, .int .i64 p]) (by simp [results, Try.results19, go_sem, hgt]) rfl ⟨rfl, ?_, ?_⟩
    · exact (((HR1.out.drewN _).set_ n (p + 1)).far (p := ⟨w.heap.size, 0, none⟩) HB.out (Nat.ne_of_lt HL.out.1) (Nat.ne_of_lt HL.out.2.1) (Nat.ne_of_lt HL.out.2.2) _).far (p := ⟨w.heap.size, 1, none⟩) HB.out (Nat.ne_of_lt HL.out.1) (Nat.ne_of_lt HL.out.2.1) (Nat.ne_of_lt HL.out.2.2) _
    · refine ⟨by simp [World.setCell], fun i hi g1 g2 => ?_⟩
      exact (Below.heap_setCell _ ⟨w.heap.size, 1, none⟩ _ i (Nat.ne_of_lt hi)).trans ((Below.heap_setCell _ ⟨w.heap.size, 0, none⟩ _ i (Nat.ne_of_lt hi)).trans ((Below.heap_setCell _ ⟨ga, n.toNat, none⟩ _ i g1).trans (Below.heap_alloc w _ i hi)))
set_option maxHeartbeats 1000000 in
theorem do_free {B : Nat} {w0 w : World} {gr ga bm : Nat} {aT : Addr} {N c0 : Nat} {xs : List Int} {L : Int → Option Int} {q : Nat}
    (hR : Run B w0 w gr ga bm (some aT) N c0 xs L q) (hB : B ≤ w.heap.size) (hN : N ≤ 1000000) (n p s c : Int) (h0 : 0 ≤ n) (h1 : n < (N : Int)) (aR : Addr) (len cR : Nat)
    (hp : rd xs n = p) (hp0 : 0 ≤ p) (hp1 : p < (len : Int)) (hlen : len ≤ 1000000)
    (hrow : w.cell? (aT.add n.toNat) = some (.slice (some aR) len cR)) (hstep : w.cell? (aR.add p.toNat) = some (.int .i64 s)) (hs1 : decide (0 < s) = false)
    (hlook : ∀ m, (Instr.lookup 43 (.map (some bm)) (.int .i64 (wrap64 (-s))) true).run Try.prog ((w.alloc (.cells #[.int .i64 0, .int .i64 0] 37)).drewN m) = .ok (.tuple #[.int .i64 c, .bool false]) ((w.alloc (.cells #[.int .i64 0, .int .i64 0] 37)).drewN m)) :
    Calls Try.prog 19 #[.pointer (some ⟨gr, 0, none⟩), .int .i64 n] w fun e w' => e = .returned (.agg #[.int .i64 n, .int .i64 p]) ∧ (Run B w0 w' gr ga bm (some aT) N c0 (xs.set n.toNat (p + 1)) L q) ∧ (w.heap.size ≤ w'.heap.size ∧ ∀ i, i < w.heap.size → i ≠ ga → i ≠ bm → w'.heap[i]? = w.heap[i]?) := by
  have hR1 := hR.alloc hB (.cells #[.int .i64 0, .int .i64 0] 37)
  have hne := hR.gr_ga
  have hgo : ∀ (W : World) (j : Nat) (u : Value) (o : Nat), (W.setCell ⟨ga, j, none⟩ u).cell? ⟨gr, o, none⟩ = W.cell? ⟨gr, o, none⟩ := fun W j u o => World.cell?_setCell_other _ _ _ _ (by intro e; injection e with e; exact hne e.symm)
  have hgt : ∀ (W : World) (j : Nat) (u : Value) (o : Nat), (W.setCell ⟨ga, j, none⟩ u).cell? ⟨w.heap.size, o, none⟩ = W.cell? ⟨w.heap.size, o, none⟩ := fun W j u o => World.cell?_setCell_other _ _ _ _ (by intro e; injection e with e; have := lt_of_heap hR.row; omega)
  have l1 := lt_of_heap hR.run
  have l2 := lt_of_heap hR.row
  have l3 := hR.lk.lt
  have c0' := hR1.cell0
  have c1' := hR1.cell1
  have c2' := hR1.cell2
  have ca' := hR1.at_ n h0 h1
  rw [hp] at ca'
  have hbl : Below w.heap.size w (w.alloc (.cells #[.int .i64 0, .int .i64 0] 37)) := (Below.refl _ _).alloc (Nat.le_refl _) _
  have cr' := pw_cell_below hbl hrow
  have cs' := pw_cell_below hbl hstep
  have fa' := hR1.frozen_at n.toNat
  have HR1 := Lib.hid hR1
  have HB := Lib.hid hB
  have HL := Lib.hid (And.intro l1 (And.intro l2 l3))
  clear hR1 hR hp hrow hstep hbl hne hB l1 l2 l3
  have b1 : p < 1000001 := by omega
  have b2 : -1 < p := by omega
  replace h0 := eq_true h0
  replace h1 := eq_true h1
  replace hp0 := eq_true hp0
  replace hp1 := eq_true hp1
  go_enter Try.func19, Try.ntmps19
  go_wp2
  go_quiet (fail)
  go_wp2
  all_goals
    refine bodyPost_ret (v := .agg #[.int .i64 n, .int .i64 p]) (by simp [results, Try.results19, go_sem, hgt]) rfl ⟨rfl, ?_, ?_⟩
    · exact (((HR1.out.drewN _).set_ n (p + 1)).far (p := ⟨w.heap.size, 0, none⟩) HB.out (Nat.ne_of_lt HL.out.1) (Nat.ne_of_lt HL.out.2.1) (Nat.ne_of_lt HL.out.2.2) _).far (p := ⟨w.heap.size, 1, none⟩) HB.out (Nat.ne_of_lt HL.out.1) (Nat.ne_of_lt HL.out.2.1) (Nat.ne_of_lt HL.out.2.2) _
    · refine ⟨by simp [World.setCell], fun i hi g1 g2 => ?_⟩
      exact (Below.heap_setCell _ ⟨w.heap.size, 1, none⟩ _ i (Nat.ne_of_lt hi)).trans ((Below.heap_setCell _ ⟨w.heap.size, 0, none⟩ _ i (Nat.ne_of_lt hi)).trans ((Below.heap_setCell _ ⟨ga, n.toNat, none⟩ _ i g1).trans (Below.heap_alloc w _ i hi)))
set_option maxHeartbeats 1000000 in
theorem do_other {B : Nat} {w0 w : World} {gr ga bm : Nat} {aT : Addr} {N c0 : Nat} {xs : List Int} {L : Int → Option Int} {q : Nat}
    (hR : Run B w0 w gr ga bm (some aT) N c0 xs L q) (hB : B ≤ w.heap.size) (hN : N ≤ 1000000) (n p s c : Int) (h0 : 0 ≤ n) (h1 : n < (N : Int)) (aR : Addr) (len cR : Nat)
    (hp : rd xs n = p) (hp0 : 0 ≤ p) (hp1 : p < (len : Int)) (hlen : len ≤ 1000000)
    (hrow : w.cell? (aT.add n.toNat) = some (.slice (some aR) len cR)) (hstep : w.cell? (aR.add p.toNat) = some (.int .i64 s)) (hs0 : decide (s < 0) = true) (hs1 : decide (0 < s) = false) (hcn : ((c : Int) == n) = false)
    (hlook : ∀ m, (Instr.lookup 43 (.map (some bm)) (.int .i64 (wrap64 (-s))) true).run Try.prog ((w.alloc (.cells #[.int .i64 0, .int .i64 0] 37)).drewN m) = .ok (.tuple #[.int .i64 c, .bool true]) ((w.alloc (.cells #[.int .i64 0, .int .i64 0] 37)).drewN m)) :
    Calls Try.prog 19 #[.pointer (some ⟨gr, 0, none⟩), .int .i64 n] w fun e w' => e = .returned (.agg #[.int .i64 n, .int .i64 p]) ∧ (Run B w0 w' gr ga bm (some aT) N c0 (xs.set n.toNat (p + 1)) L q) ∧ (w.heap.size ≤ w'.heap.size ∧ ∀ i, i < w.heap.size → i ≠ ga → i ≠ bm → w'.heap[i]? = w.heap[i]?) := by
  have hR1 := hR.alloc hB (.cells #[.int .i64 0, .int .i64 0] 37)
  have hne := hR.gr_ga
  have hgo : ∀ (W : World) (j : Nat) (u : Value) (o : Nat), (W.setCell ⟨ga, j, none⟩ u).cell? ⟨gr, o, none⟩ = W.cell? ⟨gr, o, none⟩ := fun W j u o => World.cell?_setCell_other _ _ _ _ (by intro e; injection e with e; exact hne e.symm)
  have hgt : ∀ (W : World) (j : Nat) (u : Value) (o : Nat), (W.setCell ⟨ga, j, none⟩ u).cell? ⟨w.heap.size, o, none⟩ = W.cell? ⟨w.heap.size, o, none⟩ := fun W j u o => World.cell?_setCell_other _ _ _ _ (by intro e; injection e with e; have := lt_of_heap hR.row; omega)
  have l1 := lt_of_heap hR.run
  have l2 := lt_of_heap hR.row
  have l3 := hR.lk.lt
  have c0' := hR1.cell0
  have c1' := hR1.cell1
  have c2' := hR1.cell2
  have ca' := hR1.at_ n h0 h1
  rw [hp] at ca'
  have hbl : Below w.heap.size w (w.alloc (.cells #[.int .i64 0, .int .i64 0] 37)) := (Below.refl _ _).alloc (Nat.le_refl _) _
  have cr' := pw_cell_below hbl hrow
  have cs' := pw_cell_below hbl hstep
  have fa' := hR1.frozen_at n.toNat
  have HR1 := Lib.hid hR1
  have HB := Lib.hid hB
  have HL := Lib.hid (And.intro l1 (And.intro l2 l3))
  clear hR1 hR hp hrow hstep hbl hne hB l1 l2 l3
  have b1 : p < 1000001 := by omega
  have b2 : -1 < p := by omega
  replace h0 := eq_true h0
  replace h1 := eq_true h1
  replace hp0 := eq_true hp0
  replace hp1 := eq_true hp1
  go_enter Try.func19, Try.ntmps19
  go_wp2
  go_quiet (fail)
  go_wp2
  all_goals
    refine bodyPost_ret (v := .agg #[.int .i64 n, .int .i64 p]) (by simp [results, Try.results19, go_sem, hgt]) rfl ⟨rfl, ?_, ?_⟩
    · exact (((HR1.out.drewN _).set_ n (p + 1)).far (p := ⟨w.heap.size, 0, none⟩) HB.out (Nat.ne_of_lt HL.out.1) (Nat.ne_of_lt HL.out.2.1) (Nat.ne_of_lt HL.out.2.2) _).far (p := ⟨w.heap.size, 1, none⟩) HB.out (Nat.ne_of_lt HL.out.1) (Nat.ne_of_lt HL.out.2.1) (Nat.ne_of_lt HL.out.2.2) _
    · refine ⟨by simp [World.setCell], fun i hi g1 g2 => ?_⟩
      exact (Below.heap_setCell _ ⟨w.heap.size, 1, none⟩ _ i (Nat.ne_of_lt hi)).trans ((Below.heap_setCell _ ⟨w.heap.size, 0, none⟩ _ i (Nat.ne_of_lt hi)).trans ((Below.heap_setCell _ ⟨ga, n.toNat, none⟩ _ i g1).trans (Below.heap_alloc w _ i hi)))
set_option maxHeartbeats 1000000 in
theorem do_give {B : Nat} {w0 w : World} {gr ga bm : Nat} {aT : Addr} {N c0 : Nat} {xs : List Int} {L : Int → Option Int} {q : Nat}
    (hR : Run B w0 w gr ga bm (some aT) N c0 xs L q) (hB : B ≤ w.heap.size) (hN : N ≤ 1000000) (n p s c : Int) (h0 : 0 ≤ n) (h1 : n < (N : Int)) (aR : Addr) (len cR : Nat)
    (hp : rd xs n = p) (hp0 : 0 ≤ p) (hp1 : p < (len : Int)) (hlen : len ≤ 1000000)
    (hrow : w.cell? (aT.add n.toNat) = some (.slice (some aR) len cR)) (hstep : w.cell? (aR.add p.toNat) = some (.int .i64 s)) (hs0 : decide (s < 0) = true) (hs1 : decide (0 < s) = false) (hcn : ((c : Int) == n) = true)
    (hlook : ∀ m, (Instr.lookup 43 (.map (some bm)) (.int .i64 (wrap64 (-s))) true).run Try.prog ((w.alloc (.cells #[.int .i64 0, .int .i64 0] 37)).drewN m) = .ok (.tuple #[.int .i64 c, .bool true]) ((w.alloc (.cells #[.int .i64 0, .int .i64 0] 37)).drewN m)) :
    Calls Try.prog 19 #[.pointer (some ⟨gr, 0, none⟩), .int .i64 n] w fun e w' => e = .returned (.agg #[.int .i64 n, .int .i64 p]) ∧ (Run B w0 w' gr ga bm (some aT) N c0 (xs.set n.toNat (p + 1)) (fun x => if x = wrap64 (-s) then none else L x) q) ∧ (w.heap.size ≤ w'.heap.size ∧ ∀ i, i < w.heap.size → i ≠ ga → i ≠ bm → w'.heap[i]? = w.heap[i]?) := by
  have H0 := Lib.hid (And.intro h0 h1)
  have HP := Lib.hid hp
  obtain ⟨D, hD, hv⟩ := hR.lk
  have HD := Lib.hid hD
  have HV := Lib.hid hv
  have HM := Lib.hid hD.isMap
  clear hD hv
  have hR1 := hR.alloc hB (.cells #[.int .i64 0, .int .i64 0] 37)
  have hne := hR.gr_ga
  have hgo : ∀ (W : World) (j : Nat) (u : Value) (o : Nat), (W.setCell ⟨ga, j, none⟩ u).cell? ⟨gr, o, none⟩ = W.cell? ⟨gr, o, none⟩ := fun W j u o => World.cell?_setCell_other _ _ _ _ (by intro e; injection e with e; exact hne e.symm)
  have hgt : ∀ (W : World) (j : Nat) (u : Value) (o : Nat), (W.setCell ⟨ga, j, none⟩ u).cell? ⟨w.heap.size, o, none⟩ = W.cell? ⟨w.heap.size, o, none⟩ := fun W j u o => World.cell?_setCell_other _ _ _ _ (by intro e; injection e with e; have := lt_of_heap hR.row; omega)
  have l1 := lt_of_heap hR.run
  have l2 := lt_of_heap hR.row
  have l3 := hR.lk.lt
  have c0' := hR1.cell0
  have c1' := hR1.cell1
  have c2' := hR1.cell2
  have ca' := hR1.at_ n h0 h1
  rw [hp] at ca'
  have hbl : Below w.heap.size w (w.alloc (.cells #[.int .i64 0, .int .i64 0] 37)) := (Below.refl _ _).alloc (Nat.le_refl _) _
  have cr' := pw_cell_below hbl hrow
  have cs' := pw_cell_below hbl hstep
  have fa' := hR1.frozen_at n.toNat
  have HR1 := Lib.hid hR1
  have HB := Lib.hid hB
  have HL := Lib.hid (And.intro l1 (And.intro l2 l3))
  clear hR1 hR hp hrow hstep hbl hne hB l1 l2 l3
  have b1 : p < 1000001 := by omega
  have b2 : -1 < p := by omega
  replace h0 := eq_true h0
  replace h1 := eq_true h1
  replace hp0 := eq_true hp0
  replace hp1 := eq_true hp1
  go_enter Try.func19, Try.ntmps19
  go_wp2
  go_quiet (fail)
  go_wp2_with (at_delete; refine wpList_delete_own _ rfl _ _ 43 3 rfl 3 keyed3 Try.underlying43 _ bm q D rfl (HD.out.alloc _) _ _ rfl (Maps.keyOf_int_mk Try.underlying3 (wrap64_wf (-s))) ?_; intro w1 hown1 hturn1; have hR2 := (HR1.out.drewN _).turned hturn1 (Lk.del HV.out _ (wrap64_wf (-s)) hown1); have d1 := hR2.cell1; have da := hR2.at_ n H0.out.1 H0.out.2; rw [HP.out] at da; have df := hR2.frozen_at n.toNat; have dt0 := (turned_cell hturn1 (show w.heap.size ≠ bm by have := HL.out; omega) (by simp) 0).trans (World.cell?_alloc_new w #[.int .i64 0, .int .i64 0] 37 0); have dt1 := (turned_cell hturn1 (show w.heap.size ≠ bm by have := HL.out; omega) (by simp) 1).trans (World.cell?_alloc_new w #[.int .i64 0, .int .i64 0] 37 1); have dg0 := (hturn1.frozen ⟨w.heap.size, 0, none⟩).trans (World.frozen?_alloc_new w #[.int .i64 0, .int .i64 0] 37 0); have dg1 := (hturn1.frozen ⟨w.heap.size, 1, none⟩).trans (World.frozen?_alloc_new w #[.int .i64 0, .int .i64 0] 37 1); have HR2 := Lib.hid hR2; have HT := Lib.hid hturn1; clear hR2 hown1 hturn1 ca')
  all_goals
    refine bodyPost_ret (v := .agg #[.int .i64 n, .int .i64 p]) (by simp [results, Try.results19, go_sem, hgt, dt0, dt1]) rfl ⟨rfl, ?_, ?_⟩
    · exact (((HR2.out).set_ n (p + 1)).far (p := ⟨w.heap.size, 0, none⟩) HB.out (Nat.ne_of_lt HL.out.1) (Nat.ne_of_lt HL.out.2.1) (Nat.ne_of_lt HL.out.2.2) _).far (p := ⟨w.heap.size, 1, none⟩) HB.out (Nat.ne_of_lt HL.out.1) (Nat.ne_of_lt HL.out.2.1) (Nat.ne_of_lt HL.out.2.2) _
    · refine ⟨by have := HT.out.grown.size; simp [World.setCell] at this ⊢; omega, fun i hi g1 g2 => ?_⟩
      exact (Below.heap_setCell _ ⟨w.heap.size, 1, none⟩ _ i (Nat.ne_of_lt hi)).trans ((Below.heap_setCell _ ⟨w.heap.size, 0, none⟩ _ i (Nat.ne_of_lt hi)).trans ((Below.heap_setCell _ ⟨ga, n.toNat, none⟩ _ i g1).trans ((turned_block HT.out g2 (by simp; omega)).trans (Below.heap_alloc w _ i hi))))
set_option maxHeartbeats 1000000 in
theorem do_take {B : Nat} {w0 w : World} {gr ga bm : Nat} {aT : Addr} {N c0 : Nat} {xs : List Int} {L : Int → Option Int} {q : Nat}
    (hR : Run B w0 w gr ga bm (some aT) N c0 xs L q) (hB : B ≤ w.heap.size) (hN : N ≤ 1000000) (n p s c : Int) (h0 : 0 ≤ n) (h1 : n < (N : Int)) (aR : Addr) (len cR : Nat)
    (hp : rd xs n = p) (hp0 : 0 ≤ p) (hp1 : p < (len : Int)) (hlen : len ≤ 1000000)
    (hrow : w.cell? (aT.add n.toNat) = some (.slice (some aR) len cR)) (hstep : w.cell? (aR.add p.toNat) = some (.int .i64 s)) (ok : Bool) (hs0 : decide (s < 0) = false) (hs1 : decide (0 < s) = true) (hsw : wf64 s) (hq : q < 1000000000)
    (hlook : ∀ m, (Instr.lookup 43 (.map (some bm)) (.int .i64 (wrap64 (-s))) true).run Try.prog ((w.alloc (.cells #[.int .i64 0, .int .i64 0] 37)).drewN m) = .ok (.tuple #[.int .i64 c, .bool ok]) ((w.alloc (.cells #[.int .i64 0, .int .i64 0] 37)).drewN m)) :
    Calls Try.prog 19 #[.pointer (some ⟨gr, 0, none⟩), .int .i64 n] w fun e w' => e = .returned (.agg #[.int .i64 n, .int .i64 p]) ∧ (Run B w0 w' gr ga bm (some aT) N c0 (xs.set n.toNat (p + 1)) (fun x => if x = s then some n else L x) (q + 1)) ∧ (w.heap.size ≤ w'.heap.size ∧ ∀ i, i < w.heap.size → i ≠ ga → i ≠ bm → w'.heap[i]? = w.heap[i]?) := by
  have H0 := Lib.hid (And.intro h0 h1)
  have HP := Lib.hid hp
  obtain ⟨D, hD, hv⟩ := hR.lk
  have HD := Lib.hid hD
  have HV := Lib.hid hv
  have HM := Lib.hid hD.isMap
  clear hD hv
  have HW := Lib.hid (And.intro hsw ((wf64_iff n).2 (by omega)))
  clear hsw
  have hR1 := hR.alloc hB (.cells #[.int .i64 0, .int .i64 0] 37)
  have hne := hR.gr_ga
  have hgo : ∀ (W : World) (j : Nat) (u : Value) (o : Nat), (W.setCell ⟨ga, j, none⟩ u).cell? ⟨gr, o, none⟩ = W.cell? ⟨gr, o, none⟩ := fun W j u o => World.cell?_setCell_other _ _ _ _ (by intro e; injection e with e; exact hne e.symm)
  have hgt : ∀ (W : World) (j : Nat) (u : Value) (o : Nat), (W.setCell ⟨ga, j, none⟩ u).cell? ⟨w.heap.size, o, none⟩ = W.cell? ⟨w.heap.size, o, none⟩ := fun W j u o => World.cell?_setCell_other _ _ _ _ (by intro e; injection e with e; have := lt_of_heap hR.row; omega)
  have l1 := lt_of_heap hR.run
  have l2 := lt_of_heap hR.row
  have l3 := hR.lk.lt
  have c0' := hR1.cell0
  have c1' := hR1.cell1
  have c2' := hR1.cell2
  have ca' := hR1.at_ n h0 h1
  rw [hp] at ca'
  have hbl : Below w.heap.size w (w.alloc (.cells #[.int .i64 0, .int .i64 0] 37)) := (Below.refl _ _).alloc (Nat.le_refl _) _
  have cr' := pw_cell_below hbl hrow
  have cs' := pw_cell_below hbl hstep
  have fa' := hR1.frozen_at n.toNat
  have HR1 := Lib.hid hR1
  have HB := Lib.hid hB
  have HL := Lib.hid (And.intro l1 (And.intro l2 l3))
  clear hR1 hR hp hrow hstep hbl hne hB l1 l2 l3
  have b1 : p < 1000001 := by omega
  have b2 : -1 < p := by omega
  replace h0 := eq_true h0
  replace h1 := eq_true h1
  replace hp0 := eq_true hp0
  replace hp1 := eq_true hp1
  go_enter Try.func19, Try.ntmps19
  go_wp2
  go_quiet (fail)
  go_wp2_with (at_mapUpdate; refine wpList_mapUpdate_in _ rfl _ _ _ 43 rfl 3 3 keyed3 Try.underlying43 _ bm q D rfl (HD.out.alloc _) (by unfold maxLen; omega) _ _ _ rfl rfl (Maps.keyOf_int_mk Try.underlying3 HW.out.1) (.lit (.int .i64 n)) [] (plainElem_int Try.underlying3 HW.out.2) ?_; intro w1 hown1 hturn1; have hR2 := (HR1.out.drewN _).turned hturn1 (Lk.put HM.out HV.out _ _ HW.out.1 hown1); have d1 := hR2.cell1; have da := hR2.at_ n H0.out.1 H0.out.2; rw [HP.out] at da; have df := hR2.frozen_at n.toNat; have dt0 := (turned_cell hturn1 (show w.heap.size ≠ bm by have := HL.out; omega) (by simp) 0).trans (World.cell?_alloc_new w #[.int .i64 0, .int .i64 0] 37 0); have dt1 := (turned_cell hturn1 (show w.heap.size ≠ bm by have := HL.out; omega) (by simp) 1).trans (World.cell?_alloc_new w #[.int .i64 0, .int .i64 0] 37 1); have dg0 := (hturn1.frozen ⟨w.heap.size, 0, none⟩).trans (World.frozen?_alloc_new w #[.int .i64 0, .int .i64 0] 37 0); have dg1 := (hturn1.frozen ⟨w.heap.size, 1, none⟩).trans (World.frozen?_alloc_new w #[.int .i64 0, .int .i64 0] 37 1); have HR2 := Lib.hid hR2; have HT := Lib.hid hturn1; clear hR2 hown1 hturn1 ca')
  all_goals
    refine bodyPost_ret (v := .agg #[.int .i64 n, .int .i64 p]) (by simp [results, Try.results19, go_sem, hgt, dt0, dt1]) rfl ⟨rfl, ?_, ?_⟩
    · exact (((HR2.out).set_ n (p + 1)).far (p := ⟨w.heap.size, 0, none⟩) HB.out (Nat.ne_of_lt HL.out.1) (Nat.ne_of_lt HL.out.2.1) (Nat.ne_of_lt HL.out.2.2) _).far (p := ⟨w.heap.size, 1, none⟩) HB.out (Nat.ne_of_lt HL.out.1) (Nat.ne_of_lt HL.out.2.1) (Nat.ne_of_lt HL.out.2.2) _
    · refine ⟨by have := HT.out.grown.size; simp [World.setCell] at this ⊢; omega, fun i hi g1 g2 => ?_⟩
      exact (Below.heap_setCell _ ⟨w.heap.size, 1, none⟩ _ i (Nat.ne_of_lt hi)).trans ((Below.heap_setCell _ ⟨w.heap.size, 0, none⟩ _ i (Nat.ne_of_lt hi)).trans ((Below.heap_setCell _ ⟨ga, n.toNat, none⟩ _ i g1).trans ((turned_block HT.out g2 (by simp; omega)).trans (Below.heap_alloc w _ i hi))))
end Go.Proofs.Ytglafngeeggeeaa
