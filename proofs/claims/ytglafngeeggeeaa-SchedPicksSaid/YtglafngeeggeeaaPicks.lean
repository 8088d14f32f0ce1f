/- The law function SchedPicks, walked by hand: it returns true. -/
import Derived.Test.YtglafngeeggeeaaPicked2
namespace Go.Proofs.Ytglafngeeggeeaa
open Go.RowKit Go.Proofs.YtglafngeeggeeaaW.PrintWords Go.Proofs.YtglafngeeggeeaaW.PrintLast Go.Proofs.Ytglafngeeggeeaa.PSch
set_option linter.unusedVariables false
set_option linter.unusedSimpArgs false
set_option linter.unnecessarySimpa false
theorem three_made (w : World) (p q r : Nat) :
    Below w.heap.size w (((w.alloc (.cells (madeCells #[.int .i64 0] p) 3)).alloc (.cells (madeCells #[.int .i64 0] q) 3)).alloc (.cells (madeCells #[.int .i64 0] r) 3)).drew ∧
      (((w.alloc (.cells (madeCells #[.int .i64 0] p) 3)).alloc (.cells (madeCells #[.int .i64 0] q) 3)).alloc (.cells (madeCells #[.int .i64 0] r) 3)).drew.heap[w.heap.size]? = some (.cells (madeCells #[.int .i64 0] p) 3 (0, 0)) ∧
      (((w.alloc (.cells (madeCells #[.int .i64 0] p) 3)).alloc (.cells (madeCells #[.int .i64 0] q) 3)).alloc (.cells (madeCells #[.int .i64 0] r) 3)).drew.heap[w.heap.size + 1]? = some (.cells (madeCells #[.int .i64 0] q) 3 (0, 0)) ∧
      (((w.alloc (.cells (madeCells #[.int .i64 0] p) 3)).alloc (.cells (madeCells #[.int .i64 0] q) 3)).alloc (.cells (madeCells #[.int .i64 0] r) 3)).drew.heap[w.heap.size + 2]? = some (.cells (madeCells #[.int .i64 0] r) 3 (0, 0)) := by
  refine ⟨((((Below.refl _ w).alloc (Nat.le_refl _) _).alloc (by simp) _).alloc (by simp; omega) _).drew, ?_, ?_, ?_⟩
  · show (((w.alloc (.cells (madeCells #[.int .i64 0] p) 3)).alloc (.cells (madeCells #[.int .i64 0] q) 3)).alloc (.cells (madeCells #[.int .i64 0] r) 3)).heap[w.heap.size]? = _
    rw [Below.heap_alloc _ _ _ (by simp; omega), Below.heap_alloc _ _ _ (by simp), blk_new]
  · show (((w.alloc (.cells (madeCells #[.int .i64 0] p) 3)).alloc (.cells (madeCells #[.int .i64 0] q) 3)).alloc (.cells (madeCells #[.int .i64 0] r) 3)).heap[w.heap.size + 1]? = _
    rw [Below.heap_alloc _ _ _ (by simp)]
    have := blk_new (w.alloc (.cells (madeCells #[.int .i64 0] p) 3)) (.cells (madeCells #[.int .i64 0] q) 3)
    rwa [World.size_alloc] at this
  · show (((w.alloc (.cells (madeCells #[.int .i64 0] p) 3)).alloc (.cells (madeCells #[.int .i64 0] q) 3)).alloc (.cells (madeCells #[.int .i64 0] r) 3)).heap[w.heap.size + 2]? = _
    have := blk_new ((w.alloc (.cells (madeCells #[.int .i64 0] p) 3)).alloc (.cells (madeCells #[.int .i64 0] q) 3)) (.cells (madeCells #[.int .i64 0] r) 3)
    rwa [World.size_alloc, World.size_alloc] at this
set_option maxRecDepth 100000 in
set_option maxHeartbeats 4000000 in
theorem picks_some (a b c : Int) (a0 : 0 ≤ a) (a1 : a ≤ 255) (b0 : 0 ≤ b) (b1 : b ≤ 255) (c0 : 0 ≤ c) (c1 : c ≤ 255) (na nb nc : Nat) (ea : a % 16 = (na : Int)) (eb : b % 16 = (nb : Int)) (ec : c % 16 = (nc : Int))
    (A1 : Option Addr) (cp : Nat) (picks : List Int) (w : World) (hr1 : Kd.C (Kd.int .i64) w A1 picks.length picks) (hc1 : picks.length ≤ cp)
    (k : Nat) (hawake : gatepostlaw22_awake.f k = some true) (hp : picks.length ≤ 100) :
    Calls Try.prog 7 #[.agg #[.int .u8 a, .int .u8 b, .int .u8 c], .slice A1 picks.length cp] w fun e w' => e = .returned (.bool true) ∧ Below w.heap.size w w' := by
  have hna : na < 16 := by omega
  have hnb : nb < 16 := by omega
  have hnc : nc < 16 := by omega
  have hma := print_make 23 3 .i64 8 Try.underlying23 info3 (by omega) na (by omega)
  have hmb := print_make 23 3 .i64 8 Try.underlying23 info3 (by omega) nb (by omega)
  have hmc := print_make 23 3 .i64 8 Try.underlying23 info3 (by omega) nc (by omega)
  have ta : Int.tmod a 16 = (na : Int) := by rw [Int.tmod_eq_emod_of_nonneg a0]; exact ea
  have tb : Int.tmod b 16 = (nb : Int) := by rw [Int.tmod_eq_emod_of_nonneg b0]; exact eb
  have tc : Int.tmod c 16 = (nc : Int) := by rw [Int.tmod_eq_emod_of_nonneg c0]; exact ec
  have HR1 := Aside0.mk hr1
  have HC1 := Aside0.mk hc1
  have HB := Aside0.mk (Below.refl w.heap.size w)
  have HAw := Aside0.mk hawake
  clear hr1 hc1 hawake
  have d0 : decide ((picks.length : Int) > 100) = false := decide_eq_false (by omega)
  have d1 : decide (100 < (picks.length : Int)) = false := decide_eq_false (by omega)
  have d2 : decide (100 < picks.length) = false := decide_eq_false (by omega)
  have kk0 : (w.alloc (.cells #[.int .u8 a, .int .u8 b, .int .u8 c] 39)).cell? ⟨w.heap.size, 0, none⟩ = some (.int .u8 a) := World.cell?_alloc_new w _ _ 0
  have kk1 : (w.alloc (.cells #[.int .u8 a, .int .u8 b, .int .u8 c] 39)).cell? ⟨w.heap.size, 1, none⟩ = some (.int .u8 b) := World.cell?_alloc_new w _ _ 1
  have kk2 : (w.alloc (.cells #[.int .u8 a, .int .u8 b, .int .u8 c] 39)).cell? ⟨w.heap.size, 2, none⟩ = some (.int .u8 c) := World.cell?_alloc_new w _ _ 2
  go_enter Try.func7, Try.ntmps7
  go_wp2_with (first | (go_at_call 8; (with_reducible refine (gatepostlaw22_awake.calls k true _ HAw.out).mono ?_); rintro e w5 ⟨rfl, hb⟩; have HB5 := Aside0.mk hb; have k0 := pw_cell_below hb kk0; have k1 := pw_cell_below hb kk1; have k2 := pw_cell_below hb kk2; clear hb kk0 kk1 kk2))
  have wa : IntKind.i64.wrap a = a := IntWalk.i64_in _ (by omega)
  have wb : IntKind.i64.wrap b = b := IntWalk.i64_in _ (by omega)
  have wc : IntKind.i64.wrap c = c := IntWalk.i64_in _ (by omega)
  have wa' : wrap64 a = a := wrap64_id _ (by omega) (by omega)
  have wb' : wrap64 b = b := wrap64_id _ (by omega) (by omega)
  have wc' : wrap64 c = c := wrap64_id _ (by omega) (by omega)
  refine start_ (n := 17) (S := fun w' => w'.cell? ⟨w.heap.size, 0, none⟩ = some (.int .u8 a) ∧ w'.cell? ⟨w.heap.size, 1, none⟩ = some (.int .u8 b) ∧ w'.cell? ⟨w.heap.size, 2, none⟩ = some (.int .u8 c)) (ds := []) #[false, false, false, false, false, false, false, false, false, false, false, false, false, false, false, false, false] (by kernel_rfl) rfl rfl ⟨k0, k1, k2⟩ (fun hHeld => ?_)
  refine pure_ (i := 0) (N := some 17) (v := ?_) (a' := ?_) #[true, false, false, false, false, false, false, false, false, false, false, false, false, false, false, false, false] rfl rfl (by kernel_rfl) (fun _ _ _ h => h) (Or.inl ⟨by rfl, ?_⟩) ?_ ?_
  rotate_left
  · intro w'
    go_simp
    with_reducible rfl
  rotate_left
  · simp only [Act.put, List.setIfInBounds_toArray, List.set_cons_zero, List.set_cons_succ, i64_w, i32_w]
    rfl
  refine pure_ (i := 5) (N := some 22) (v := ?_) (a' := ?_) #[true, false, false, false, false, true, false, false, false, false, false, false, false, false, false, false, false] rfl rfl (by kernel_rfl) (fun _ _ _ h => h) (Or.inl ⟨by rfl, ?_⟩) ?_ ?_
  rotate_left
  · intro w'
    go_simp
    with_reducible rfl
  rotate_left
  · simp only [Act.put, List.setIfInBounds_toArray, List.set_cons_zero, List.set_cons_succ, i64_w, i32_w]
    rfl
  refine pure_ (i := 10) (N := some 27) (v := ?_) (a' := ?_) #[true, false, false, false, false, true, false, false, false, false, true, false, false, false, false, false, false] rfl rfl (by kernel_rfl) (fun _ _ _ h => h) (Or.inl ⟨by rfl, ?_⟩) ?_ ?_
  rotate_left
  · intro w'
    go_simp
    with_reducible rfl
  rotate_left
  · simp only [Act.put, List.setIfInBounds_toArray, List.set_cons_zero, List.set_cons_succ, i64_w, i32_w]
    rfl
  refine take_ (i := 1) (N := some 18) (v := ?_) (a' := ?_) #[true, true, false, false, false, true, false, false, false, false, true, false, false, false, false, false, false] rfl rfl (by kernel_rfl) (fun _ _ _ h => h) (Or.inl ⟨by rfl, ?_⟩) hHeld ?_ ?_
  rotate_left
  · rintro w' ⟨s0, s1, s2⟩
    go_simp
    with_reducible rfl
  rotate_left
  · simp only [Act.put, List.setIfInBounds_toArray, List.set_cons_zero, List.set_cons_succ, i64_w, i32_w]
    rfl
  refine pure_ (i := 2) (N := some 19) (v := ?_) (a' := ?_) #[true, true, true, false, false, true, false, false, false, false, true, false, false, false, false, false, false] rfl rfl (by kernel_rfl) (fun _ _ _ h => h) (Or.inl ⟨by rfl, ?_⟩) ?_ ?_
  rotate_left
  · intro w'
    go_simp
    with_reducible rfl
  rotate_left
  · simp only [Act.put, List.setIfInBounds_toArray, List.set_cons_zero, List.set_cons_succ, i64_w, i32_w]
    rfl
  refine pure_ (i := 3) (N := some 20) (v := ?_) (a' := ?_) #[true, true, true, true, false, true, false, false, false, false, true, false, false, false, false, false, false] rfl rfl (by kernel_rfl) (fun _ _ _ h => h) (Or.inl ⟨by rfl, ?_⟩) ?_ ?_
  rotate_left
  · intro w'
    go_simp
    with_reducible rfl
  rotate_left
  · simp only [Act.put, List.setIfInBounds_toArray, List.set_cons_zero, List.set_cons_succ, i64_w, i32_w]
    rfl
  refine take_ (i := 6) (N := some 23) (v := ?_) (a' := ?_) #[true, true, true, true, false, true, true, false, false, false, true, false, false, false, false, false, false] rfl rfl (by kernel_rfl) (fun _ _ _ h => h) (Or.inl ⟨by rfl, ?_⟩) hHeld ?_ ?_
  rotate_left
  · rintro w' ⟨s0, s1, s2⟩
    go_simp
    with_reducible rfl
  rotate_left
  · simp only [Act.put, List.setIfInBounds_toArray, List.set_cons_zero, List.set_cons_succ, i64_w, i32_w]
    rfl
  refine pure_ (i := 7) (N := some 24) (v := ?_) (a' := ?_) #[true, true, true, true, false, true, true, true, false, false, true, false, false, false, false, false, false] rfl rfl (by kernel_rfl) (fun _ _ _ h => h) (Or.inl ⟨by rfl, ?_⟩) ?_ ?_
  rotate_left
  · intro w'
    go_simp
    with_reducible rfl
  rotate_left
  · simp only [Act.put, List.setIfInBounds_toArray, List.set_cons_zero, List.set_cons_succ, i64_w, i32_w]
    rfl
  refine pure_ (i := 8) (N := some 25) (v := ?_) (a' := ?_) #[true, true, true, true, false, true, true, true, true, false, true, false, false, false, false, false, false] rfl rfl (by kernel_rfl) (fun _ _ _ h => h) (Or.inl ⟨by rfl, ?_⟩) ?_ ?_
  rotate_left
  · intro w'
    go_simp
    with_reducible rfl
  rotate_left
  · simp only [Act.put, List.setIfInBounds_toArray, List.set_cons_zero, List.set_cons_succ, i64_w, i32_w]
    rfl
  refine take_ (i := 11) (N := some 28) (v := ?_) (a' := ?_) #[true, true, true, true, false, true, true, true, true, false, true, true, false, false, false, false, false] rfl rfl (by kernel_rfl) (fun _ _ _ h => h) (Or.inl ⟨by rfl, ?_⟩) hHeld ?_ ?_
  rotate_left
  · rintro w' ⟨s0, s1, s2⟩
    go_simp
    with_reducible rfl
  rotate_left
  · simp only [Act.put, List.setIfInBounds_toArray, List.set_cons_zero, List.set_cons_succ, i64_w, i32_w]
    rfl
  refine pure_ (i := 12) (N := some 29) (v := ?_) (a' := ?_) #[true, true, true, true, false, true, true, true, true, false, true, true, true, false, false, false, false] rfl rfl (by kernel_rfl) (fun _ _ _ h => h) (Or.inl ⟨by rfl, ?_⟩) ?_ ?_
  rotate_left
  · intro w'
    go_simp
    with_reducible rfl
  rotate_left
  · simp only [Act.put, List.setIfInBounds_toArray, List.set_cons_zero, List.set_cons_succ, i64_w, i32_w]
    rfl
  refine pure_ (i := 13) (N := some 30) (v := ?_) (a' := ?_) #[true, true, true, true, false, true, true, true, true, false, true, true, true, true, false, false, false] rfl rfl (by kernel_rfl) (fun _ _ _ h => h) (Or.inl ⟨by rfl, ?_⟩) ?_ ?_
  rotate_left
  · intro w'
    go_simp
    with_reducible rfl
  rotate_left
  · simp only [Act.put, List.setIfInBounds_toArray, List.set_cons_zero, List.set_cons_succ, i64_w, i32_w]
    rfl
  refine join_ (σ := Nat × Nat × Nat) 2 #[true, true, true, true, true, true, true, true, true, true, true, true, true, true, true, false, false] (fun s_ => [(21, .slice (some ⟨s_.1, 0, none⟩) na na), (26, .slice (some ⟨s_.2.1, 0, none⟩) nb nb), (31, .slice (some ⟨s_.2.2, 0, none⟩) nc nc)]) (fun s_ w' => (w'.cell? ⟨w.heap.size, 0, none⟩ = some (.int .u8 a) ∧ w'.cell? ⟨w.heap.size, 1, none⟩ = some (.int .u8 b) ∧ w'.cell? ⟨w.heap.size, 2, none⟩ = some (.int .u8 c)) ∧ Below w5.heap.size w5 w' ∧ w5.heap.size ≤ s_.1 ∧ w5.heap.size ≤ s_.2.1 ∧ w5.heap.size ≤ s_.2.2 ∧ w'.heap[s_.1]? = some (.cells (madeCells #[.int .i64 0] na) 3 (0, 0)) ∧ w'.heap[s_.2.1]? = some (.cells (madeCells #[.int .i64 0] nb) 3 (0, 0)) ∧ w'.heap[s_.2.2]? = some (.cells (madeCells #[.int .i64 0] nc) 3 (0, 0))) ?_ ?_
  rotate_left
  · intro hCont
    refine three_ (i := 4) (j := 9) (k := 14) (Ni := some 21) (Nj := some 26) (Nk := some 31) #[true, true, true, true, true, true, true, true, true, false, true, true, true, true, false, false, false] #[true, true, true, true, false, true, true, true, true, true, true, true, true, true, false, false, false] #[true, true, true, true, false, true, true, true, true, false, true, true, true, true, true, false, false] rfl rfl rfl rfl rfl rfl (by kernel_rfl) (by decide) (by decide) (by decide) (fun K hK => ?_) (fun K hK => ?_) (fun K hK => ?_)
    · skip
      refine value_ (w1 := ?_) (v := ?_) (by rfl) rfl ?_ ?_
      rotate_left 2
      · go_simp
        constructor
        · rfl
        · rfl
      refine hK.out _ _ ⟨cell_alloc_l _ hHeld.1, cell_alloc_l _ hHeld.2.1, cell_alloc_l _ hHeld.2.2⟩ (fun hHeld => ?_)
      clear hK K
      refine norm_ (a' := ?_) ?_ ?_
      rotate_left
      · show Act.put _ (some 21) _ = _
        simp only [Act.put, List.setIfInBounds_toArray, List.set_cons_zero, List.set_cons_succ, i64_w, i32_w]
        rfl
      refine two_ (i := 9) (j := 14) (Ni := some 26) (Nj := some 31) #[true, true, true, true, true, true, true, true, true, true, true, true, true, true, false, false, false] #[true, true, true, true, true, true, true, true, true, false, true, true, true, true, true, false, false] rfl rfl rfl rfl (by kernel_rfl) (by decide) (by decide) (fun K hK => ?_) (fun K hK => ?_)
      · skip
        refine value_ (w1 := ?_) (v := ?_) (by rfl) rfl ?_ ?_
        rotate_left 2
        · go_simp
          constructor
          · rfl
          · rfl
        refine hK.out _ _ ⟨cell_alloc_l _ hHeld.1, cell_alloc_l _ hHeld.2.1, cell_alloc_l _ hHeld.2.2⟩ (fun hHeld => ?_)
        clear hK K
        refine norm_ (a' := ?_) ?_ ?_
        rotate_left
        · show Act.put _ (some 26) _ = _
          simp only [Act.put, List.setIfInBounds_toArray, List.set_cons_zero, List.set_cons_succ, i64_w, i32_w]
          rfl
        refine one_ (i := 14) (N := some 31) #[true, true, true, true, true, true, true, true, true, true, true, true, true, true, true, false, false] rfl rfl (by kernel_rfl) (by decide) (fun K hK => ?_)
        refine value_ (w1 := ?_) (v := ?_) (by rfl) rfl ?_ ?_
        rotate_left 2
        · go_simp
          constructor
          · rfl
          · rfl
        refine hK.out _ _ ⟨cell_alloc_l _ hHeld.1, cell_alloc_l _ hHeld.2.1, cell_alloc_l _ hHeld.2.2⟩ (fun hHeld => ?_)
        clear hK K
        refine norm_ (a' := ?_) ?_ ?_
        rotate_left
        · show Act.put _ (some 31) _ = _
          simp only [Act.put, List.setIfInBounds_toArray, List.set_cons_zero, List.set_cons_succ, i64_w, i32_w]
          rfl
        exact norm_ (by simp only [putAll, Act.put, List.setIfInBounds_toArray, List.set_cons_zero, List.set_cons_succ]) (hCont (w5.heap.size, w5.heap.size + 1, w5.heap.size + 2) _ ⟨hHeld, (three_made w5 na nb nc).1, Nat.le_refl _, Nat.le_add_right _ 1, Nat.le_add_right _ 2, (three_made w5 na nb nc).2.1, (three_made w5 na nb nc).2.2.1, (three_made w5 na nb nc).2.2.2⟩)
      · skip
        refine value_ (w1 := ?_) (v := ?_) (by rfl) rfl ?_ ?_
        rotate_left 2
        · go_simp
          constructor
          · rfl
          · rfl
        refine hK.out _ _ ⟨cell_alloc_l _ hHeld.1, cell_alloc_l _ hHeld.2.1, cell_alloc_l _ hHeld.2.2⟩ (fun hHeld => ?_)
        clear hK K
        refine norm_ (a' := ?_) ?_ ?_
        rotate_left
        · show Act.put _ (some 31) _ = _
          simp only [Act.put, List.setIfInBounds_toArray, List.set_cons_zero, List.set_cons_succ, i64_w, i32_w]
          rfl
        refine one_ (i := 9) (N := some 26) #[true, true, true, true, true, true, true, true, true, true, true, true, true, true, true, false, false] rfl rfl (by kernel_rfl) (by decide) (fun K hK => ?_)
        refine value_ (w1 := ?_) (v := ?_) (by rfl) rfl ?_ ?_
        rotate_left 2
        · go_simp
          constructor
          · rfl
          · rfl
        refine hK.out _ _ ⟨cell_alloc_l _ hHeld.1, cell_alloc_l _ hHeld.2.1, cell_alloc_l _ hHeld.2.2⟩ (fun hHeld => ?_)
        clear hK K
        refine norm_ (a' := ?_) ?_ ?_
        rotate_left
        · show Act.put _ (some 26) _ = _
          simp only [Act.put, List.setIfInBounds_toArray, List.set_cons_zero, List.set_cons_succ, i64_w, i32_w]
          rfl
        exact norm_ (by simp only [putAll, Act.put, List.setIfInBounds_toArray, List.set_cons_zero, List.set_cons_succ]) (hCont (w5.heap.size, w5.heap.size + 2, w5.heap.size + 1) _ ⟨hHeld, (three_made w5 na nc nb).1, Nat.le_refl _, Nat.le_add_right _ 2, Nat.le_add_right _ 1, (three_made w5 na nc nb).2.1, (three_made w5 na nc nb).2.2.2, (three_made w5 na nc nb).2.2.1⟩)
    · skip
      refine value_ (w1 := ?_) (v := ?_) (by rfl) rfl ?_ ?_
      rotate_left 2
      · go_simp
        constructor
        · rfl
        · rfl
      refine hK.out _ _ ⟨cell_alloc_l _ hHeld.1, cell_alloc_l _ hHeld.2.1, cell_alloc_l _ hHeld.2.2⟩ (fun hHeld => ?_)
      clear hK K
      refine norm_ (a' := ?_) ?_ ?_
      rotate_left
      · show Act.put _ (some 26) _ = _
        simp only [Act.put, List.setIfInBounds_toArray, List.set_cons_zero, List.set_cons_succ, i64_w, i32_w]
        rfl
      refine two_ (i := 4) (j := 14) (Ni := some 21) (Nj := some 31) #[true, true, true, true, true, true, true, true, true, true, true, true, true, true, false, false, false] #[true, true, true, true, false, true, true, true, true, true, true, true, true, true, true, false, false] rfl rfl rfl rfl (by kernel_rfl) (by decide) (by decide) (fun K hK => ?_) (fun K hK => ?_)
      · skip
        refine value_ (w1 := ?_) (v := ?_) (by rfl) rfl ?_ ?_
        rotate_left 2
        · go_simp
          constructor
          · rfl
          · rfl
        refine hK.out _ _ ⟨cell_alloc_l _ hHeld.1, cell_alloc_l _ hHeld.2.1, cell_alloc_l _ hHeld.2.2⟩ (fun hHeld => ?_)
        clear hK K
        refine norm_ (a' := ?_) ?_ ?_
        rotate_left
        · show Act.put _ (some 21) _ = _
          simp only [Act.put, List.setIfInBounds_toArray, List.set_cons_zero, List.set_cons_succ, i64_w, i32_w]
          rfl
        refine one_ (i := 14) (N := some 31) #[true, true, true, true, true, true, true, true, true, true, true, true, true, true, true, false, false] rfl rfl (by kernel_rfl) (by decide) (fun K hK => ?_)
        refine value_ (w1 := ?_) (v := ?_) (by rfl) rfl ?_ ?_
        rotate_left 2
        · go_simp
          constructor
          · rfl
          · rfl
        refine hK.out _ _ ⟨cell_alloc_l _ hHeld.1, cell_alloc_l _ hHeld.2.1, cell_alloc_l _ hHeld.2.2⟩ (fun hHeld => ?_)
        clear hK K
        refine norm_ (a' := ?_) ?_ ?_
        rotate_left
        · show Act.put _ (some 31) _ = _
          simp only [Act.put, List.setIfInBounds_toArray, List.set_cons_zero, List.set_cons_succ, i64_w, i32_w]
          rfl
        exact norm_ (by simp only [putAll, Act.put, List.setIfInBounds_toArray, List.set_cons_zero, List.set_cons_succ]) (hCont (w5.heap.size + 1, w5.heap.size, w5.heap.size + 2) _ ⟨hHeld, (three_made w5 nb na nc).1, Nat.le_add_right _ 1, Nat.le_refl _, Nat.le_add_right _ 2, (three_made w5 nb na nc).2.2.1, (three_made w5 nb na nc).2.1, (three_made w5 nb na nc).2.2.2⟩)
      · skip
        refine value_ (w1 := ?_) (v := ?_) (by rfl) rfl ?_ ?_
        rotate_left 2
        · go_simp
          constructor
          · rfl
          · rfl
        refine hK.out _ _ ⟨cell_alloc_l _ hHeld.1, cell_alloc_l _ hHeld.2.1, cell_alloc_l _ hHeld.2.2⟩ (fun hHeld => ?_)
        clear hK K
        refine norm_ (a' := ?_) ?_ ?_
        rotate_left
        · show Act.put _ (some 31) _ = _
          simp only [Act.put, List.setIfInBounds_toArray, List.set_cons_zero, List.set_cons_succ, i64_w, i32_w]
          rfl
        refine one_ (i := 4) (N := some 21) #[true, true, true, true, true, true, true, true, true, true, true, true, true, true, true, false, false] rfl rfl (by kernel_rfl) (by decide) (fun K hK => ?_)
        refine value_ (w1 := ?_) (v := ?_) (by rfl) rfl ?_ ?_
        rotate_left 2
        · go_simp
          constructor
          · rfl
          · rfl
        refine hK.out _ _ ⟨cell_alloc_l _ hHeld.1, cell_alloc_l _ hHeld.2.1, cell_alloc_l _ hHeld.2.2⟩ (fun hHeld => ?_)
        clear hK K
        refine norm_ (a' := ?_) ?_ ?_
        rotate_left
        · show Act.put _ (some 21) _ = _
          simp only [Act.put, List.setIfInBounds_toArray, List.set_cons_zero, List.set_cons_succ, i64_w, i32_w]
          rfl
        exact norm_ (by simp only [putAll, Act.put, List.setIfInBounds_toArray, List.set_cons_zero, List.set_cons_succ]) (hCont (w5.heap.size + 2, w5.heap.size, w5.heap.size + 1) _ ⟨hHeld, (three_made w5 nb nc na).1, Nat.le_add_right _ 2, Nat.le_refl _, Nat.le_add_right _ 1, (three_made w5 nb nc na).2.2.2, (three_made w5 nb nc na).2.1, (three_made w5 nb nc na).2.2.1⟩)
    · skip
      refine value_ (w1 := ?_) (v := ?_) (by rfl) rfl ?_ ?_
      rotate_left 2
      · go_simp
        constructor
        · rfl
        · rfl
      refine hK.out _ _ ⟨cell_alloc_l _ hHeld.1, cell_alloc_l _ hHeld.2.1, cell_alloc_l _ hHeld.2.2⟩ (fun hHeld => ?_)
      clear hK K
      refine norm_ (a' := ?_) ?_ ?_
      rotate_left
      · show Act.put _ (some 31) _ = _
        simp only [Act.put, List.setIfInBounds_toArray, List.set_cons_zero, List.set_cons_succ, i64_w, i32_w]
        rfl
      refine two_ (i := 4) (j := 9) (Ni := some 21) (Nj := some 26) #[true, true, true, true, true, true, true, true, true, false, true, true, true, true, true, false, false] #[true, true, true, true, false, true, true, true, true, true, true, true, true, true, true, false, false] rfl rfl rfl rfl (by kernel_rfl) (by decide) (by decide) (fun K hK => ?_) (fun K hK => ?_)
      · skip
        refine value_ (w1 := ?_) (v := ?_) (by rfl) rfl ?_ ?_
        rotate_left 2
        · go_simp
          constructor
          · rfl
          · rfl
        refine hK.out _ _ ⟨cell_alloc_l _ hHeld.1, cell_alloc_l _ hHeld.2.1, cell_alloc_l _ hHeld.2.2⟩ (fun hHeld => ?_)
        clear hK K
        refine norm_ (a' := ?_) ?_ ?_
        rotate_left
        · show Act.put _ (some 21) _ = _
          simp only [Act.put, List.setIfInBounds_toArray, List.set_cons_zero, List.set_cons_succ, i64_w, i32_w]
          rfl
        refine one_ (i := 9) (N := some 26) #[true, true, true, true, true, true, true, true, true, true, true, true, true, true, true, false, false] rfl rfl (by kernel_rfl) (by decide) (fun K hK => ?_)
        refine value_ (w1 := ?_) (v := ?_) (by rfl) rfl ?_ ?_
        rotate_left 2
        · go_simp
          constructor
          · rfl
          · rfl
        refine hK.out _ _ ⟨cell_alloc_l _ hHeld.1, cell_alloc_l _ hHeld.2.1, cell_alloc_l _ hHeld.2.2⟩ (fun hHeld => ?_)
        clear hK K
        refine norm_ (a' := ?_) ?_ ?_
        rotate_left
        · show Act.put _ (some 26) _ = _
          simp only [Act.put, List.setIfInBounds_toArray, List.set_cons_zero, List.set_cons_succ, i64_w, i32_w]
          rfl
        exact norm_ (by simp only [putAll, Act.put, List.setIfInBounds_toArray, List.set_cons_zero, List.set_cons_succ]) (hCont (w5.heap.size + 1, w5.heap.size + 2, w5.heap.size) _ ⟨hHeld, (three_made w5 nc na nb).1, Nat.le_add_right _ 1, Nat.le_add_right _ 2, Nat.le_refl _, (three_made w5 nc na nb).2.2.1, (three_made w5 nc na nb).2.2.2, (three_made w5 nc na nb).2.1⟩)
      · skip
        refine value_ (w1 := ?_) (v := ?_) (by rfl) rfl ?_ ?_
        rotate_left 2
        · go_simp
          constructor
          · rfl
          · rfl
        refine hK.out _ _ ⟨cell_alloc_l _ hHeld.1, cell_alloc_l _ hHeld.2.1, cell_alloc_l _ hHeld.2.2⟩ (fun hHeld => ?_)
        clear hK K
        refine norm_ (a' := ?_) ?_ ?_
        rotate_left
        · show Act.put _ (some 26) _ = _
          simp only [Act.put, List.setIfInBounds_toArray, List.set_cons_zero, List.set_cons_succ, i64_w, i32_w]
          rfl
        refine one_ (i := 4) (N := some 21) #[true, true, true, true, true, true, true, true, true, true, true, true, true, true, true, false, false] rfl rfl (by kernel_rfl) (by decide) (fun K hK => ?_)
        refine value_ (w1 := ?_) (v := ?_) (by rfl) rfl ?_ ?_
        rotate_left 2
        · go_simp
          constructor
          · rfl
          · rfl
        refine hK.out _ _ ⟨cell_alloc_l _ hHeld.1, cell_alloc_l _ hHeld.2.1, cell_alloc_l _ hHeld.2.2⟩ (fun hHeld => ?_)
        clear hK K
        refine norm_ (a' := ?_) ?_ ?_
        rotate_left
        · show Act.put _ (some 21) _ = _
          simp only [Act.put, List.setIfInBounds_toArray, List.set_cons_zero, List.set_cons_succ, i64_w, i32_w]
          rfl
        exact norm_ (by simp only [putAll, Act.put, List.setIfInBounds_toArray, List.set_cons_zero, List.set_cons_succ]) (hCont (w5.heap.size + 2, w5.heap.size + 1, w5.heap.size) _ ⟨hHeld, (three_made w5 nc nb na).1, Nat.le_add_right _ 2, Nat.le_add_right _ 1, Nat.le_refl _, (three_made w5 nc nb na).2.2.2, (three_made w5 nc nb na).2.2.1, (three_made w5 nc nb na).2.1⟩)
  rintro ⟨ga, gb, gc⟩ w6 ⟨hS_, hbl, ga0, gb0, gc0, hga, hgb, hgc⟩
  have hHeld : w6.cell? ⟨w.heap.size, 0, none⟩ = some (.int .u8 a) ∧ w6.cell? ⟨w.heap.size, 1, none⟩ = some (.int .u8 b) ∧ w6.cell? ⟨w.heap.size, 2, none⟩ = some (.int .u8 c) := hS_
  refine norm_ (a' := ?_) ?_ ?_
  rotate_left
  · simp only [putAll, Act.put, List.setIfInBounds_toArray, List.set_cons_zero, List.set_cons_succ]
    rfl
  refine one_ (i := 15) (N := some 32) #[true, true, true, true, true, true, true, true, true, true, true, true, true, true, true, true, false] rfl rfl (by kernel_rfl) (by decide) (fun K hK => ?_)
  refine value_ (w1 := ?_) (v := ?_) (by rfl) rfl ?_ ?_
  rotate_left 2
  · go_simp
    constructor
    · rfl
    · rfl
  refine hK.out _ _ ⟨cell_alloc_l _ hHeld.1, cell_alloc_l _ hHeld.2.1, cell_alloc_l _ hHeld.2.2⟩ (fun hHeld => ?_)
  clear hK K
  refine norm_ (a' := ?_) ?_ ?_
  rotate_left
  · show Act.put _ (some 32) _ = _
    simp only [Act.put, List.setIfInBounds_toArray, List.set_cons_zero, List.set_cons_succ, i64_w, i32_w]
    rfl
  refine pure_ (i := 16) (N := some 6) (v := ?_) (a' := ?_) #[true, true, true, true, true, true, true, true, true, true, true, true, true, true, true, true, true] rfl rfl (by kernel_rfl) (fun _ _ _ h => h) (Or.inl ⟨by rfl, ?_⟩) ?_ ?_
  rotate_left
  · intro w'
    go_simp
    with_reducible rfl
  rotate_left
  · simp only [Act.put, List.setIfInBounds_toArray, List.set_cons_zero, List.set_cons_succ, i64_w, i32_w]
    rfl
  refine done_ (by kernel_rfl) ?_

  dsimp only at ga0 gb0 gc0 hga hgb hgc
  have hT := Aside0.mk (three_C w6 ga gb gc na nb nc hna hnb hnc hga hgb hgc)
  have hord := order_f (three na nb nc) picks (three_few na nb nc hna hnb hnc) (by omega)
  change _ = some (turnsOf (three na nb nc) picks) at hord
  have HOr := Aside0.mk hord
  clear hord hma hmb hmc ta tb tc
  go_wp2_with (first | (go_at_call 11; refine (sched_Order.calls _ _ (three na nb nc) _ _ picks _ _ hT.out (Nat.le_refl _) (Kd.C_alloc (Kd.C_below (Kd.C_below (Kd.C_alloc HR1.out _) HB5.out) hbl) _) HC1.out HOr.out).mono ?_; rintro e w7 ⟨v7, rfl, ho, hb⟩; have HO7 := Aside0.mk ho; have HB7 := Aside0.mk hb; clear hb ho; obtain ⟨Ao7, co7, eo7⟩ := Kd.R_slice HO7.out; subst eo7))
  have r0 := pw_cell_below HB7.out (show (w6.alloc (.cells #[.slice (some ⟨ga, 0, none⟩) na na, .slice (some ⟨gb, 0, none⟩) nb nb, .slice (some ⟨gc, 0, none⟩) nc nc] 23)).cell? ⟨w6.heap.size, 0, none⟩ = some (.slice (some ⟨ga, 0, none⟩) na na) from World.cell?_alloc_new w6 _ _ 0)
  have r1 := pw_cell_below HB7.out (show (w6.alloc (.cells #[.slice (some ⟨ga, 0, none⟩) na na, .slice (some ⟨gb, 0, none⟩) nb nb, .slice (some ⟨gc, 0, none⟩) nc nc] 23)).cell? ⟨w6.heap.size, 1, none⟩ = some (.slice (some ⟨gb, 0, none⟩) nb nb) from World.cell?_alloc_new w6 _ _ 1)
  have r2 := pw_cell_below HB7.out (show (w6.alloc (.cells #[.slice (some ⟨ga, 0, none⟩) na na, .slice (some ⟨gb, 0, none⟩) nb nb, .slice (some ⟨gc, 0, none⟩) nc nc] 23)).cell? ⟨w6.heap.size, 2, none⟩ = some (.slice (some ⟨gc, 0, none⟩) nc nc) from World.cell?_alloc_new w6 _ _ 2)
  refine start_ (n := 14) (S := fun w' => w'.cell? ⟨w6.heap.size, 0, none⟩ = some (.slice (some ⟨ga, 0, none⟩) na na) ∧ w'.cell? ⟨w6.heap.size, 1, none⟩ = some (.slice (some ⟨gb, 0, none⟩) nb nb) ∧ w'.cell? ⟨w6.heap.size, 2, none⟩ = some (.slice (some ⟨gc, 0, none⟩) nc nc)) (ds := []) #[false, false, false, false, false, false, false, false, false, false, false, false, false, false] (by kernel_rfl) rfl rfl ⟨r0, r1, r2⟩ (fun hHeld => ?_)
  refine pure_ (i := 0) (N := some 36) (v := ?_) (a' := ?_) #[true, false, false, false, false, false, false, false, false, false, false, false, false, false] rfl rfl (by kernel_rfl) (fun _ _ _ h => h) (Or.inl ⟨by rfl, ?_⟩) ?_ ?_
  rotate_left
  · intro w'
    go_simp
    with_reducible rfl
  rotate_left
  · simp only [Act.put, List.setIfInBounds_toArray, List.set_cons_zero, List.set_cons_succ, i64_w, i32_w]
    rfl
  refine pure_ (i := 1) (N := some 37) (v := ?_) (a' := ?_) #[true, true, false, false, false, false, false, false, false, false, false, false, false, false] rfl rfl (by kernel_rfl) (fun _ _ _ h => h) (Or.inl ⟨by rfl, ?_⟩) ?_ ?_
  rotate_left
  · intro w'
    go_simp
    with_reducible rfl
  rotate_left
  · simp only [Act.put, List.setIfInBounds_toArray, List.set_cons_zero, List.set_cons_succ, i64_w, i32_w]
    rfl
  refine pure_ (i := 4) (N := some 40) (v := ?_) (a' := ?_) #[true, true, false, false, true, false, false, false, false, false, false, false, false, false] rfl rfl (by kernel_rfl) (fun _ _ _ h => h) (Or.inl ⟨by rfl, ?_⟩) ?_ ?_
  rotate_left
  · intro w'
    go_simp
    with_reducible rfl
  rotate_left
  · simp only [Act.put, List.setIfInBounds_toArray, List.set_cons_zero, List.set_cons_succ, i64_w, i32_w]
    rfl
  refine pure_ (i := 5) (N := some 41) (v := ?_) (a' := ?_) #[true, true, false, false, true, true, false, false, false, false, false, false, false, false] rfl rfl (by kernel_rfl) (fun _ _ _ h => h) (Or.inl ⟨by rfl, ?_⟩) ?_ ?_
  rotate_left
  · intro w'
    go_simp
    with_reducible rfl
  rotate_left
  · simp only [Act.put, List.setIfInBounds_toArray, List.set_cons_zero, List.set_cons_succ, i64_w, i32_w]
    rfl
  refine pure_ (i := 8) (N := some 44) (v := ?_) (a' := ?_) #[true, true, false, false, true, true, false, false, true, false, false, false, false, false] rfl rfl (by kernel_rfl) (fun _ _ _ h => h) (Or.inl ⟨by rfl, ?_⟩) ?_ ?_
  rotate_left
  · intro w'
    go_simp
    with_reducible rfl
  rotate_left
  · simp only [Act.put, List.setIfInBounds_toArray, List.set_cons_zero, List.set_cons_succ, i64_w, i32_w]
    rfl
  refine pure_ (i := 9) (N := some 45) (v := ?_) (a' := ?_) #[true, true, false, false, true, true, false, false, true, true, false, false, false, false] rfl rfl (by kernel_rfl) (fun _ _ _ h => h) (Or.inl ⟨by rfl, ?_⟩) ?_ ?_
  rotate_left
  · intro w'
    go_simp
    with_reducible rfl
  rotate_left
  · simp only [Act.put, List.setIfInBounds_toArray, List.set_cons_zero, List.set_cons_succ, i64_w, i32_w]
    rfl
  refine take_ (i := 2) (N := some 38) (v := ?_) (a' := ?_) #[true, true, true, false, true, true, false, false, true, true, false, false, false, false] rfl rfl (by kernel_rfl) (fun _ _ _ h => h) (Or.inl ⟨by rfl, ?_⟩) hHeld ?_ ?_
  rotate_left
  · rintro w' ⟨s0, s1, s2⟩
    go_simp
    with_reducible rfl
  rotate_left
  · simp only [Act.put, List.setIfInBounds_toArray, List.set_cons_zero, List.set_cons_succ, i64_w, i32_w]
    rfl
  refine pure_ (i := 3) (N := some 39) (v := ?_) (a' := ?_) #[true, true, true, true, true, true, false, false, true, true, false, false, false, false] rfl rfl (by kernel_rfl) (fun _ _ _ h => h) (Or.inl ⟨by rfl, ?_⟩) ?_ ?_
  rotate_left
  · intro w'
    go_simp
    with_reducible rfl
  rotate_left
  · simp only [Act.put, List.setIfInBounds_toArray, List.set_cons_zero, List.set_cons_succ, i64_w, i32_w]
    rfl
  refine take_ (i := 6) (N := some 42) (v := ?_) (a' := ?_) #[true, true, true, true, true, true, true, false, true, true, false, false, false, false] rfl rfl (by kernel_rfl) (fun _ _ _ h => h) (Or.inl ⟨by rfl, ?_⟩) hHeld ?_ ?_
  rotate_left
  · rintro w' ⟨s0, s1, s2⟩
    go_simp
    with_reducible rfl
  rotate_left
  · simp only [Act.put, List.setIfInBounds_toArray, List.set_cons_zero, List.set_cons_succ, i64_w, i32_w]
    rfl
  refine pure_ (i := 7) (N := some 43) (v := ?_) (a' := ?_) #[true, true, true, true, true, true, true, true, true, true, false, false, false, false] rfl rfl (by kernel_rfl) (fun _ _ _ h => h) (Or.inl ⟨by rfl, ?_⟩) ?_ ?_
  rotate_left
  · intro w'
    go_simp
    with_reducible rfl
  rotate_left
  · simp only [Act.put, List.setIfInBounds_toArray, List.set_cons_zero, List.set_cons_succ, i64_w, i32_w]
    rfl
  refine take_ (i := 10) (N := some 46) (v := ?_) (a' := ?_) #[true, true, true, true, true, true, true, true, true, true, true, false, false, false] rfl rfl (by kernel_rfl) (fun _ _ _ h => h) (Or.inl ⟨by rfl, ?_⟩) hHeld ?_ ?_
  rotate_left
  · rintro w' ⟨s0, s1, s2⟩
    go_simp
    with_reducible rfl
  rotate_left
  · simp only [Act.put, List.setIfInBounds_toArray, List.set_cons_zero, List.set_cons_succ, i64_w, i32_w]
    rfl
  refine pure_ (i := 11) (N := some 47) (v := ?_) (a' := ?_) #[true, true, true, true, true, true, true, true, true, true, true, true, false, false] rfl rfl (by kernel_rfl) (fun _ _ _ h => h) (Or.inl ⟨by rfl, ?_⟩) ?_ ?_
  rotate_left
  · intro w'
    go_simp
    with_reducible rfl
  rotate_left
  · simp only [Act.put, List.setIfInBounds_toArray, List.set_cons_zero, List.set_cons_succ, i64_w, i32_w]
    rfl
  refine one_ (i := 12) (N := some 48) #[true, true, true, true, true, true, true, true, true, true, true, true, true, false] rfl rfl (by kernel_rfl) (by decide) (fun K hK => ?_)
  refine value_ (w1 := ?_) (v := ?_) (by rfl) rfl ?_ ?_
  rotate_left 2
  · go_simp
    constructor
    · rfl
    · rfl
  refine hK.out _ _ ⟨cell_alloc_l _ hHeld.1, cell_alloc_l _ hHeld.2.1, cell_alloc_l _ hHeld.2.2⟩ (fun hHeld => ?_)
  clear hK K
  refine norm_ (a' := ?_) ?_ ?_
  rotate_left
  · show Act.put _ (some 48) _ = _
    simp only [Act.put, List.setIfInBounds_toArray, List.set_cons_zero, List.set_cons_succ, i64_w, i32_w]
    rfl
  refine pure_ (i := 13) (N := some 8) (v := ?_) (a' := ?_) #[true, true, true, true, true, true, true, true, true, true, true, true, true, true] rfl rfl (by kernel_rfl) (fun _ _ _ h => h) (Or.inl ⟨by rfl, ?_⟩) ?_ ?_
  rotate_left
  · intro w'
    go_simp
    with_reducible rfl
  rotate_left
  · simp only [Act.put, List.setIfInBounds_toArray, List.set_cons_zero, List.set_cons_succ, i64_w, i32_w]
    rfl
  refine done_ (by kernel_rfl) ?_

  have hfew := three_few na nb nc hna hnb hnc
  have hlen := turns_len (three na nb nc) picks hfew
  have hall := turns_all (three na nb nc) picks hfew (three_may na nb nc)
  obtain ⟨ks, hst⟩ := steps_f (three na nb nc) hfew
  have hst' := Aside0.mk (hst ks (Nat.le_refl _))
  have hstart := PInv.start na nb nc picks
  have hCp := Aside0.mk HR1.out
  have hCl := Aside0.mk (Kd.R_reads' HO7.out).2.2
  have hCts := Aside0.mk (Kd.C_below hT.out HB7.out)
  have hBw := Aside0.mk ((((Below.refl w.heap.size w).alloc (Nat.le_refl _) (.cells #[.int .u8 a, .int .u8 b, .int .u8 c] 39)).trans (HB5.out.mono (by simp))).trans (hbl.mono (by have := HB5.out.size; simp at this; omega)))
  have hBx := Aside0.mk ((hBw.out.alloc (by have := hBw.out.size; exact this) (.cells #[.slice (some ⟨ga, 0, none⟩) na na, .slice (some ⟨gb, 0, none⟩) nb nb, .slice (some ⟨gc, 0, none⟩) nc nc] 23)).trans (HB7.out.mono (by have := hBw.out.size; simp; omega)))
  have hsz7 : w.heap.size ≤ w7.heap.size := hBx.out.size
  clear hfew hst hT HOr HO7 HB7 hBw HB HAw HB5 k0 k1 k2 hS_ hbl hga hgb hgc r0 r1 r2 wa wb wc wa' wb' wc'
  go_wp2
  generalize turnsOf (three na nb nc) picks = l at *
  go_loopw [9] (fun v9 wr => ∃ (pre : List S37) (x0 x1 x2 last : Int), v9 = .int .i64 (pre.length : Int) ∧ PInv na nb nc picks l pre x0 x1 x2 last ∧ Below w7.heap.size w7 wr ∧ wr.heap[w7.heap.size]? = some (.cells #[.int .i64 x0, .int .i64 x1, .int .i64 x2] 3 (0, 0))) (fun v9 _ => l.length - (intOf v9).toNat)
  case atStart => exact ⟨[], na, nb, nc, -1, rfl, hstart, ((Below.refl _ w7).alloc (Nat.le_refl _) _).drew, blk_new _ _⟩
  case round =>
    obtain ⟨pre, x0, x1, x2, last, rfl, hP, hbw, hblk⟩ := hrel
    have hrd := hP.round
    obtain ⟨⟨bx0, by0⟩, ⟨bx1, by1⟩, ⟨bx2, by2⟩⟩ := hP.bounds
    have hlast : ((pre.length = 0 ∧ last = -1) ∨ (0 ≤ last ∧ last < 3 ∧ 0 < pre.length ∧ (l.getD (pre.length - 1) z37).f0 = last)) := by obtain ⟨_, _, _, _, _, h⟩ := hP; exact h
    clear hP
    have HBW := Aside0.mk hbw
    have HBK := Aside0.mk hblk
    have HBX := Aside0.mk (hBx.out.trans (hbw.mono hsz7))
    have e0 : wr.cell? ⟨w7.heap.size, 0, none⟩ = some (.int .i64 x0) := by have := cell_of_row wr w7.heap.size 0 _ _ _ hblk; simpa using this
    have e1 : wr.cell? ⟨w7.heap.size, 1, none⟩ = some (.int .i64 x1) := by have := cell_of_row wr w7.heap.size 1 _ _ _ hblk; simpa using this
    have e2 : wr.cell? ⟨w7.heap.size, 2, none⟩ = some (.int .i64 x2) := by have := cell_of_row wr w7.heap.size 2 _ _ _ hblk; simpa using this
    have fz : ∀ j, wr.frozen? ⟨w7.heap.size, j, none⟩ = false := fun j => by simp [World.frozen?, HBK.out]
    have f0 := fz 0
    have f1 := fz 1
    have f2 := fz 2
    clear fz hbw hblk hstart
    rcases hrd with he | ⟨hlt, z, p, hg, hn0, hn1, hn2, hz⟩
    · have c1 : decide ((pre.length : Int) < (l.length : Int)) = false := decide_eq_false (by omega)
      have c2 : decide (pre.length < l.length) = false := decide_eq_false (by omega)
      have hCts' := Aside0.mk (Kd.C_below hCts.out HBW.out)
      have hl : (l.length : Int) = (total (three na nb nc) : Int) := hall
      clear hlast e0 e1 e2 f0 f1 f2
      have hcall : ∀ W, KT.C W (some ⟨w6.heap.size, 0, none⟩) 3 (three na nb nc) → Calls Try.prog 15 #[.slice (some ⟨w6.heap.size, 0, none⟩) 3 3] W fun e w' => e = .returned (.int .i64 (total (three na nb nc) : Int)) ∧ Drawn0 W w' :=
        fun W h => sched_Steps.calls ks _ 3 (three na nb nc) _ W h (by simp [three]) hst'.out
      have HCALL := Lib.hid (hcall wr hCts'.out)
      have q9 : decide ((l.length : Int) = (total (three na nb nc) : Int)) = true := decide_eq_true hall
      clear hcall
      go_wp2_with (go_at_call 15; refine HCALL.out.mono ?_; rintro e w8 ⟨rfl, hb⟩; have HB8 := Aside0.mk hb; clear hb)
      go_ret
      exact ⟨rfl, HBX.out.trans (HB8.out.below.mono HBX.out.size)⟩
    · clear hst' hCts
      have c1 : decide ((pre.length : Int) < (l.length : Int)) = true := decide_eq_true (by omega)
      have c2 : decide (pre.length < l.length) = true := decide_eq_true hlt
      obtain ⟨a7, e7, hx0, hx1⟩ := at_T37 hCl.out (pre.length : Int) (by omega) (by omega)
      cases e7
      rw [rd_T37_nat, hg] at hx0
      have hx0' := pw_cell_below HBW.out hx0
      rw [Int.toNat_natCast] at hx0'
      dsimp only at hx0'
      clear hx0 hx1 hg
      have hlt' := hlt
      have q4 := eq_true hlt'
      have q4' : ((pre.length : Int) < (l.length : Int)) = True := eq_true (by omega)
      by_cases hi : pre.length < picks.length
      · have g1 : decide ((pre.length : Int) < (picks.length : Int)) = true := decide_eq_true (by omega)
        have g2 : decide (pre.length < picks.length) = true := decide_eq_true hi
        have g3 : decide ((picks.length : Int) ≤ (pre.length : Int)) = false := decide_eq_false (by omega)
        have g4 : decide (picks.length ≤ pre.length) = false := decide_eq_false (by omega)
        have q5 := eq_true hi
        obtain ⟨aP, eP, hpv⟩ := Kd.at_int hCp.out (pre.length : Int) (by omega) (by omega)
        cases eP
        have hpv' := pw_cell_below HBX.out hpv
        rw [Int.toNat_natCast] at hpv'
        have hnm : nameOf picks 3 pre.length last = (Int.tmod (rd picks (pre.length : Int)) 3 + 3) % 3 := by unfold nameOf; rw [if_pos (by omega)]; rfl
        rw [hnm] at hn0 hn1 hn2
        have hm3 : -3 < Int.tmod (rd picks (pre.length : Int)) 3 ∧ Int.tmod (rd picks (pre.length : Int)) 3 < 3 := ⟨Int.lt_tmod_of_pos _ (by decide), Int.tmod_lt_of_pos _ (by decide)⟩
        clear hnm hpv hi hlast
        generalize rd picks (pre.length : Int) = y at *
        have hm : Int.tmod y 3 = -2 ∨ Int.tmod y 3 = -1 ∨ Int.tmod y 3 = 0 ∨ Int.tmod y 3 = 1 ∨ Int.tmod y 3 = 2 := by omega
        clear hm3
        rcases hm with hm | hm | hm | hm | hm <;> rw [hm] at hn0 hn1 hn2 <;> rcases hz with ⟨rfl, hr, hnext⟩ | ⟨rfl, hr, hnext⟩ | ⟨rfl, hr, hnext⟩
        · -- the pick says -2, the turn is 0's
          have HN := Aside0.mk hnext
          have hr' : ¬ 0 < x1 := fun h => absurd (hn1 (by decide) h) (by decide)
          have d3 : decide (x1 > 0) = false := decide_eq_false hr'
          have d4 : decide (0 < x1) = false := decide_eq_false hr'
          have d5 := eq_false hr' 
          clear hn0 hn1 hn2 hnext
          go_wp2
          repeat (go_quiet (fail); try go_wp2)
          refine ⟨⟨pre ++ [⟨0, p⟩], x0 - 1, x1, x2, 0, by simp, HN.out, ?_, ?_⟩, by simp [intOf]; omega⟩
          · first | exact Below.setCell HBW.out (Nat.le_refl _) _ | exact Below.setCell (pw_below_drewN HBW.out _) (Nat.le_refl _) _
          · have hb := HBK.out
            simp [World.setCell, Array.getElem?_modify, hb]
        · -- the pick says -2, the turn is 1's
          have HN := Aside0.mk hnext
          have d3 : decide (x1 > 0) = true := decide_eq_true hr
          have d4 : decide (0 < x1) = true := decide_eq_true hr
          have d5 := eq_true hr
          have hr' : ¬ x1 ≤ 0 := by omega
          have d6 := eq_false hr' 
          clear hn0 hn1 hn2 hnext
          go_wp2
          repeat (go_quiet (fail); try go_wp2)
          refine ⟨⟨pre ++ [⟨1, p⟩], x0, x1 - 1, x2, 1, by simp, HN.out, ?_, ?_⟩, by simp [intOf]; omega⟩
          · first | exact Below.setCell HBW.out (Nat.le_refl _) _ | exact Below.setCell (pw_below_drewN HBW.out _) (Nat.le_refl _) _
          · have hb := HBK.out
            simp [World.setCell, Array.getElem?_modify, hb]
        · -- the pick says -2, the turn is 2's
          have HN := Aside0.mk hnext
          have hr' : ¬ 0 < x1 := fun h => absurd (hn1 (by decide) h) (by decide)
          have d3 : decide (x1 > 0) = false := decide_eq_false hr'
          have d4 : decide (0 < x1) = false := decide_eq_false hr'
          have d5 := eq_false hr' 
          clear hn0 hn1 hn2 hnext
          go_wp2
          repeat (go_quiet (fail); try go_wp2)
          refine ⟨⟨pre ++ [⟨2, p⟩], x0, x1, x2 - 1, 2, by simp, HN.out, ?_, ?_⟩, by simp [intOf]; omega⟩
          · first | exact Below.setCell HBW.out (Nat.le_refl _) _ | exact Below.setCell (pw_below_drewN HBW.out _) (Nat.le_refl _) _
          · have hb := HBK.out
            simp [World.setCell, Array.getElem?_modify, hb]
        · -- the pick says -1, the turn is 0's
          have HN := Aside0.mk hnext
          have hr' : ¬ 0 < x2 := fun h => absurd (hn2 (by decide) h) (by decide)
          have d3 : decide (x2 > 0) = false := decide_eq_false hr'
          have d4 : decide (0 < x2) = false := decide_eq_false hr'
          have d5 := eq_false hr' 
          clear hn0 hn1 hn2 hnext
          go_wp2
          repeat (go_quiet (fail); try go_wp2)
          refine ⟨⟨pre ++ [⟨0, p⟩], x0 - 1, x1, x2, 0, by simp, HN.out, ?_, ?_⟩, by simp [intOf]; omega⟩
          · first | exact Below.setCell HBW.out (Nat.le_refl _) _ | exact Below.setCell (pw_below_drewN HBW.out _) (Nat.le_refl _) _
          · have hb := HBK.out
            simp [World.setCell, Array.getElem?_modify, hb]
        · -- the pick says -1, the turn is 1's
          have HN := Aside0.mk hnext
          have hr' : ¬ 0 < x2 := fun h => absurd (hn2 (by decide) h) (by decide)
          have d3 : decide (x2 > 0) = false := decide_eq_false hr'
          have d4 : decide (0 < x2) = false := decide_eq_false hr'
          have d5 := eq_false hr' 
          clear hn0 hn1 hn2 hnext
          go_wp2
          repeat (go_quiet (fail); try go_wp2)
          refine ⟨⟨pre ++ [⟨1, p⟩], x0, x1 - 1, x2, 1, by simp, HN.out, ?_, ?_⟩, by simp [intOf]; omega⟩
          · first | exact Below.setCell HBW.out (Nat.le_refl _) _ | exact Below.setCell (pw_below_drewN HBW.out _) (Nat.le_refl _) _
          · have hb := HBK.out
            simp [World.setCell, Array.getElem?_modify, hb]
        · -- the pick says -1, the turn is 2's
          have HN := Aside0.mk hnext
          have d3 : decide (x2 > 0) = true := decide_eq_true hr
          have d4 : decide (0 < x2) = true := decide_eq_true hr
          have d5 := eq_true hr
          have hr' : ¬ x2 ≤ 0 := by omega
          have d6 := eq_false hr' 
          clear hn0 hn1 hn2 hnext
          go_wp2
          repeat (go_quiet (fail); try go_wp2)
          refine ⟨⟨pre ++ [⟨2, p⟩], x0, x1, x2 - 1, 2, by simp, HN.out, ?_, ?_⟩, by simp [intOf]; omega⟩
          · first | exact Below.setCell HBW.out (Nat.le_refl _) _ | exact Below.setCell (pw_below_drewN HBW.out _) (Nat.le_refl _) _
          · have hb := HBK.out
            simp [World.setCell, Array.getElem?_modify, hb]
        · -- the pick says 0, the turn is 0's
          have HN := Aside0.mk hnext
          have d3 : decide (x0 > 0) = true := decide_eq_true hr
          have d4 : decide (0 < x0) = true := decide_eq_true hr
          have d5 := eq_true hr
          have hr' : ¬ x0 ≤ 0 := by omega
          have d6 := eq_false hr' 
          clear hn0 hn1 hn2 hnext
          go_wp2
          repeat (go_quiet (fail); try go_wp2)
          refine ⟨⟨pre ++ [⟨0, p⟩], x0 - 1, x1, x2, 0, by simp, HN.out, ?_, ?_⟩, by simp [intOf]; omega⟩
          · first | exact Below.setCell HBW.out (Nat.le_refl _) _ | exact Below.setCell (pw_below_drewN HBW.out _) (Nat.le_refl _) _
          · have hb := HBK.out
            simp [World.setCell, Array.getElem?_modify, hb]
        · -- the pick says 0, the turn is 1's
          have HN := Aside0.mk hnext
          have hr' : ¬ 0 < x0 := fun h => absurd (hn0 (by decide) h) (by decide)
          have d3 : decide (x0 > 0) = false := decide_eq_false hr'
          have d4 : decide (0 < x0) = false := decide_eq_false hr'
          have d5 := eq_false hr' 
          clear hn0 hn1 hn2 hnext
          go_wp2
          repeat (go_quiet (fail); try go_wp2)
          refine ⟨⟨pre ++ [⟨1, p⟩], x0, x1 - 1, x2, 1, by simp, HN.out, ?_, ?_⟩, by simp [intOf]; omega⟩
          · first | exact Below.setCell HBW.out (Nat.le_refl _) _ | exact Below.setCell (pw_below_drewN HBW.out _) (Nat.le_refl _) _
          · have hb := HBK.out
            simp [World.setCell, Array.getElem?_modify, hb]
        · -- the pick says 0, the turn is 2's
          have HN := Aside0.mk hnext
          have hr' : ¬ 0 < x0 := fun h => absurd (hn0 (by decide) h) (by decide)
          have d3 : decide (x0 > 0) = false := decide_eq_false hr'
          have d4 : decide (0 < x0) = false := decide_eq_false hr'
          have d5 := eq_false hr' 
          clear hn0 hn1 hn2 hnext
          go_wp2
          repeat (go_quiet (fail); try go_wp2)
          refine ⟨⟨pre ++ [⟨2, p⟩], x0, x1, x2 - 1, 2, by simp, HN.out, ?_, ?_⟩, by simp [intOf]; omega⟩
          · first | exact Below.setCell HBW.out (Nat.le_refl _) _ | exact Below.setCell (pw_below_drewN HBW.out _) (Nat.le_refl _) _
          · have hb := HBK.out
            simp [World.setCell, Array.getElem?_modify, hb]
        · -- the pick says 1, the turn is 0's
          have HN := Aside0.mk hnext
          have hr' : ¬ 0 < x1 := fun h => absurd (hn1 (by decide) h) (by decide)
          have d3 : decide (x1 > 0) = false := decide_eq_false hr'
          have d4 : decide (0 < x1) = false := decide_eq_false hr'
          have d5 := eq_false hr' 
          clear hn0 hn1 hn2 hnext
          go_wp2
          repeat (go_quiet (fail); try go_wp2)
          refine ⟨⟨pre ++ [⟨0, p⟩], x0 - 1, x1, x2, 0, by simp, HN.out, ?_, ?_⟩, by simp [intOf]; omega⟩
          · first | exact Below.setCell HBW.out (Nat.le_refl _) _ | exact Below.setCell (pw_below_drewN HBW.out _) (Nat.le_refl _) _
          · have hb := HBK.out
            simp [World.setCell, Array.getElem?_modify, hb]
        · -- the pick says 1, the turn is 1's
          have HN := Aside0.mk hnext
          have d3 : decide (x1 > 0) = true := decide_eq_true hr
          have d4 : decide (0 < x1) = true := decide_eq_true hr
          have d5 := eq_true hr
          have hr' : ¬ x1 ≤ 0 := by omega
          have d6 := eq_false hr' 
          clear hn0 hn1 hn2 hnext
          go_wp2
          repeat (go_quiet (fail); try go_wp2)
          refine ⟨⟨pre ++ [⟨1, p⟩], x0, x1 - 1, x2, 1, by simp, HN.out, ?_, ?_⟩, by simp [intOf]; omega⟩
          · first | exact Below.setCell HBW.out (Nat.le_refl _) _ | exact Below.setCell (pw_below_drewN HBW.out _) (Nat.le_refl _) _
          · have hb := HBK.out
            simp [World.setCell, Array.getElem?_modify, hb]
        · -- the pick says 1, the turn is 2's
          have HN := Aside0.mk hnext
          have hr' : ¬ 0 < x1 := fun h => absurd (hn1 (by decide) h) (by decide)
          have d3 : decide (x1 > 0) = false := decide_eq_false hr'
          have d4 : decide (0 < x1) = false := decide_eq_false hr'
          have d5 := eq_false hr' 
          clear hn0 hn1 hn2 hnext
          go_wp2
          repeat (go_quiet (fail); try go_wp2)
          refine ⟨⟨pre ++ [⟨2, p⟩], x0, x1, x2 - 1, 2, by simp, HN.out, ?_, ?_⟩, by simp [intOf]; omega⟩
          · first | exact Below.setCell HBW.out (Nat.le_refl _) _ | exact Below.setCell (pw_below_drewN HBW.out _) (Nat.le_refl _) _
          · have hb := HBK.out
            simp [World.setCell, Array.getElem?_modify, hb]
        · -- the pick says 2, the turn is 0's
          have HN := Aside0.mk hnext
          have hr' : ¬ 0 < x2 := fun h => absurd (hn2 (by decide) h) (by decide)
          have d3 : decide (x2 > 0) = false := decide_eq_false hr'
          have d4 : decide (0 < x2) = false := decide_eq_false hr'
          have d5 := eq_false hr' 
          clear hn0 hn1 hn2 hnext
          go_wp2
          repeat (go_quiet (fail); try go_wp2)
          refine ⟨⟨pre ++ [⟨0, p⟩], x0 - 1, x1, x2, 0, by simp, HN.out, ?_, ?_⟩, by simp [intOf]; omega⟩
          · first | exact Below.setCell HBW.out (Nat.le_refl _) _ | exact Below.setCell (pw_below_drewN HBW.out _) (Nat.le_refl _) _
          · have hb := HBK.out
            simp [World.setCell, Array.getElem?_modify, hb]
        · -- the pick says 2, the turn is 1's
          have HN := Aside0.mk hnext
          have hr' : ¬ 0 < x2 := fun h => absurd (hn2 (by decide) h) (by decide)
          have d3 : decide (x2 > 0) = false := decide_eq_false hr'
          have d4 : decide (0 < x2) = false := decide_eq_false hr'
          have d5 := eq_false hr' 
          clear hn0 hn1 hn2 hnext
          go_wp2
          repeat (go_quiet (fail); try go_wp2)
          refine ⟨⟨pre ++ [⟨1, p⟩], x0, x1 - 1, x2, 1, by simp, HN.out, ?_, ?_⟩, by simp [intOf]; omega⟩
          · first | exact Below.setCell HBW.out (Nat.le_refl _) _ | exact Below.setCell (pw_below_drewN HBW.out _) (Nat.le_refl _) _
          · have hb := HBK.out
            simp [World.setCell, Array.getElem?_modify, hb]
        · -- the pick says 2, the turn is 2's
          have HN := Aside0.mk hnext
          have d3 : decide (x2 > 0) = true := decide_eq_true hr
          have d4 : decide (0 < x2) = true := decide_eq_true hr
          have d5 := eq_true hr
          have hr' : ¬ x2 ≤ 0 := by omega
          have d6 := eq_false hr' 
          clear hn0 hn1 hn2 hnext
          go_wp2
          repeat (go_quiet (fail); try go_wp2)
          refine ⟨⟨pre ++ [⟨2, p⟩], x0, x1, x2 - 1, 2, by simp, HN.out, ?_, ?_⟩, by simp [intOf]; omega⟩
          · first | exact Below.setCell HBW.out (Nat.le_refl _) _ | exact Below.setCell (pw_below_drewN HBW.out _) (Nat.le_refl _) _
          · have hb := HBK.out
            simp [World.setCell, Array.getElem?_modify, hb]
      · have g1 : decide ((pre.length : Int) < (picks.length : Int)) = false := decide_eq_false (by omega)
        have g2 : decide (pre.length < picks.length) = false := decide_eq_false hi
        have g3 : decide ((picks.length : Int) ≤ (pre.length : Int)) = true := decide_eq_true (by omega)
        have g4 : decide (picks.length ≤ pre.length) = true := decide_eq_true (by omega)
        have q5 := eq_false hi
        have q6 : (picks.length ≤ pre.length) = True := eq_true (by omega)
        have hnm : nameOf picks 3 pre.length last = (last + 1) % 3 := by unfold nameOf; rw [if_neg (by omega)]; rfl
        rw [hnm] at hn0 hn1 hn2
        clear hnm hi
        rcases hlast with ⟨hp0, rfl⟩ | ⟨la0, la1, hp0, hlf⟩
        · have k1 : decide ((pre.length : Int) > 0) = false := decide_eq_false (by omega)
          have k2 : decide (0 < (pre.length : Int)) = false := decide_eq_false (by omega)
          have k3 : decide (0 < pre.length) = false := decide_eq_false (by omega)
          have k4 : (0 < pre.length) = False := eq_false (by omega)
          clear hp0
          rcases hz with ⟨rfl, hr, hnext⟩ | ⟨rfl, hr, hnext⟩ | ⟨rfl, hr, hnext⟩
          · have HN := Aside0.mk hnext
            clear hn0 hn1 hn2 hnext
            go_wp2
            repeat (go_quiet (fail); try go_wp2)
            refine ⟨⟨pre ++ [⟨0, p⟩], x0 - 1, x1, x2, 0, by simp, HN.out, ?_, ?_⟩, by simp [intOf]; omega⟩
            · first | exact Below.setCell HBW.out (Nat.le_refl _) _ | exact Below.setCell (pw_below_drewN HBW.out _) (Nat.le_refl _) _
            · have hb := HBK.out
              simp [World.setCell, Array.getElem?_modify, hb]
          · have HN := Aside0.mk hnext
            clear hn0 hn1 hn2 hnext
            go_wp2
            repeat (go_quiet (fail); try go_wp2)
            refine ⟨⟨pre ++ [⟨1, p⟩], x0, x1 - 1, x2, 1, by simp, HN.out, ?_, ?_⟩, by simp [intOf]; omega⟩
            · first | exact Below.setCell HBW.out (Nat.le_refl _) _ | exact Below.setCell (pw_below_drewN HBW.out _) (Nat.le_refl _) _
            · have hb := HBK.out
              simp [World.setCell, Array.getElem?_modify, hb]
          · have HN := Aside0.mk hnext
            clear hn0 hn1 hn2 hnext
            go_wp2
            repeat (go_quiet (fail); try go_wp2)
            refine ⟨⟨pre ++ [⟨2, p⟩], x0, x1, x2 - 1, 2, by simp, HN.out, ?_, ?_⟩, by simp [intOf]; omega⟩
            · first | exact Below.setCell HBW.out (Nat.le_refl _) _ | exact Below.setCell (pw_below_drewN HBW.out _) (Nat.le_refl _) _
            · have hb := HBK.out
              simp [World.setCell, Array.getElem?_modify, hb]
        · have k1 : decide ((pre.length : Int) > 0) = true := decide_eq_true (by omega)
          have k2 : decide (0 < (pre.length : Int)) = true := decide_eq_true (by omega)
          have k3 : decide (0 < pre.length) = true := decide_eq_true hp0
          have k4 : (0 < pre.length) = True := eq_true hp0
          obtain ⟨a8, e8, hy0, hy1⟩ := at_T37 hCl.out ((pre.length : Int) - 1) (by omega) (by omega)
          cases e8
          rw [show (pre.length : Int) - 1 = ((pre.length - 1 : Nat) : Int) by omega, rd_T37_nat, hlf] at hy0
          rw [Int.toNat_natCast] at hy0
          have hy0' := pw_cell_below HBW.out hy0
          have w1 : wrap64 ((pre.length : Int) - 1) = (pre.length : Int) - 1 := wrap64_id _ (by omega) (by omega)
          have w2 : ((pre.length : Int) - 1).toNat = pre.length - 1 := by omega
          have w3 : (0 ≤ (pre.length : Int) - 1) = True := eq_true (by omega)
          have w4 : ((pre.length : Int) - 1 < (l.length : Int)) = True := eq_true (by omega)
          have w5' : 1 ≤ pre.length := hp0
          clear hy0 hy1 hlf
          have hl3 : last = 0 ∨ last = 1 ∨ last = 2 := by omega
          clear la0 la1
          rcases hl3 with rfl | rfl | rfl <;> rcases hz with ⟨rfl, hr, hnext⟩ | ⟨rfl, hr, hnext⟩ | ⟨rfl, hr, hnext⟩
          · have HN := Aside0.mk hnext
            have hr' : ¬ 0 < x1 := fun h => absurd (hn1 (by decide) h) (by decide)
            have d3 : decide (x1 > 0) = false := decide_eq_false hr'
            have d4 : decide (0 < x1) = false := decide_eq_false hr'
            have d5 := eq_false hr' 
            clear hn0 hn1 hn2 hnext
            go_wp2
            repeat (go_quiet (fail); try go_wp2)
            refine ⟨⟨pre ++ [⟨0, p⟩], x0 - 1, x1, x2, 0, by simp, HN.out, ?_, ?_⟩, by simp [intOf]; omega⟩
            · first | exact Below.setCell HBW.out (Nat.le_refl _) _ | exact Below.setCell (pw_below_drewN HBW.out _) (Nat.le_refl _) _
            · have hb := HBK.out
              simp [World.setCell, Array.getElem?_modify, hb]
          · have HN := Aside0.mk hnext
            have d3 : decide (x1 > 0) = true := decide_eq_true hr
            have d4 : decide (0 < x1) = true := decide_eq_true hr
            have d5 := eq_true hr
            have hr' : ¬ x1 ≤ 0 := by omega
            have d6 := eq_false hr' 
            clear hn0 hn1 hn2 hnext
            go_wp2
            repeat (go_quiet (fail); try go_wp2)
            refine ⟨⟨pre ++ [⟨1, p⟩], x0, x1 - 1, x2, 1, by simp, HN.out, ?_, ?_⟩, by simp [intOf]; omega⟩
            · first | exact Below.setCell HBW.out (Nat.le_refl _) _ | exact Below.setCell (pw_below_drewN HBW.out _) (Nat.le_refl _) _
            · have hb := HBK.out
              simp [World.setCell, Array.getElem?_modify, hb]
          · have HN := Aside0.mk hnext
            have hr' : ¬ 0 < x1 := fun h => absurd (hn1 (by decide) h) (by decide)
            have d3 : decide (x1 > 0) = false := decide_eq_false hr'
            have d4 : decide (0 < x1) = false := decide_eq_false hr'
            have d5 := eq_false hr' 
            clear hn0 hn1 hn2 hnext
            go_wp2
            repeat (go_quiet (fail); try go_wp2)
            refine ⟨⟨pre ++ [⟨2, p⟩], x0, x1, x2 - 1, 2, by simp, HN.out, ?_, ?_⟩, by simp [intOf]; omega⟩
            · first | exact Below.setCell HBW.out (Nat.le_refl _) _ | exact Below.setCell (pw_below_drewN HBW.out _) (Nat.le_refl _) _
            · have hb := HBK.out
              simp [World.setCell, Array.getElem?_modify, hb]
          · have HN := Aside0.mk hnext
            have hr' : ¬ 0 < x2 := fun h => absurd (hn2 (by decide) h) (by decide)
            have d3 : decide (x2 > 0) = false := decide_eq_false hr'
            have d4 : decide (0 < x2) = false := decide_eq_false hr'
            have d5 := eq_false hr' 
            clear hn0 hn1 hn2 hnext
            go_wp2
            repeat (go_quiet (fail); try go_wp2)
            refine ⟨⟨pre ++ [⟨0, p⟩], x0 - 1, x1, x2, 0, by simp, HN.out, ?_, ?_⟩, by simp [intOf]; omega⟩
            · first | exact Below.setCell HBW.out (Nat.le_refl _) _ | exact Below.setCell (pw_below_drewN HBW.out _) (Nat.le_refl _) _
            · have hb := HBK.out
              simp [World.setCell, Array.getElem?_modify, hb]
          · have HN := Aside0.mk hnext
            have hr' : ¬ 0 < x2 := fun h => absurd (hn2 (by decide) h) (by decide)
            have d3 : decide (x2 > 0) = false := decide_eq_false hr'
            have d4 : decide (0 < x2) = false := decide_eq_false hr'
            have d5 := eq_false hr' 
            clear hn0 hn1 hn2 hnext
            go_wp2
            repeat (go_quiet (fail); try go_wp2)
            refine ⟨⟨pre ++ [⟨1, p⟩], x0, x1 - 1, x2, 1, by simp, HN.out, ?_, ?_⟩, by simp [intOf]; omega⟩
            · first | exact Below.setCell HBW.out (Nat.le_refl _) _ | exact Below.setCell (pw_below_drewN HBW.out _) (Nat.le_refl _) _
            · have hb := HBK.out
              simp [World.setCell, Array.getElem?_modify, hb]
          · have HN := Aside0.mk hnext
            have d3 : decide (x2 > 0) = true := decide_eq_true hr
            have d4 : decide (0 < x2) = true := decide_eq_true hr
            have d5 := eq_true hr
            have hr' : ¬ x2 ≤ 0 := by omega
            have d6 := eq_false hr' 
            clear hn0 hn1 hn2 hnext
            go_wp2
            repeat (go_quiet (fail); try go_wp2)
            refine ⟨⟨pre ++ [⟨2, p⟩], x0, x1, x2 - 1, 2, by simp, HN.out, ?_, ?_⟩, by simp [intOf]; omega⟩
            · first | exact Below.setCell HBW.out (Nat.le_refl _) _ | exact Below.setCell (pw_below_drewN HBW.out _) (Nat.le_refl _) _
            · have hb := HBK.out
              simp [World.setCell, Array.getElem?_modify, hb]
          · have HN := Aside0.mk hnext
            have d3 : decide (x0 > 0) = true := decide_eq_true hr
            have d4 : decide (0 < x0) = true := decide_eq_true hr
            have d5 := eq_true hr
            have hr' : ¬ x0 ≤ 0 := by omega
            have d6 := eq_false hr' 
            clear hn0 hn1 hn2 hnext
            go_wp2
            repeat (go_quiet (fail); try go_wp2)
            refine ⟨⟨pre ++ [⟨0, p⟩], x0 - 1, x1, x2, 0, by simp, HN.out, ?_, ?_⟩, by simp [intOf]; omega⟩
            · first | exact Below.setCell HBW.out (Nat.le_refl _) _ | exact Below.setCell (pw_below_drewN HBW.out _) (Nat.le_refl _) _
            · have hb := HBK.out
              simp [World.setCell, Array.getElem?_modify, hb]
          · have HN := Aside0.mk hnext
            have hr' : ¬ 0 < x0 := fun h => absurd (hn0 (by decide) h) (by decide)
            have d3 : decide (x0 > 0) = false := decide_eq_false hr'
            have d4 : decide (0 < x0) = false := decide_eq_false hr'
            have d5 := eq_false hr' 
            clear hn0 hn1 hn2 hnext
            go_wp2
            repeat (go_quiet (fail); try go_wp2)
            refine ⟨⟨pre ++ [⟨1, p⟩], x0, x1 - 1, x2, 1, by simp, HN.out, ?_, ?_⟩, by simp [intOf]; omega⟩
            · first | exact Below.setCell HBW.out (Nat.le_refl _) _ | exact Below.setCell (pw_below_drewN HBW.out _) (Nat.le_refl _) _
            · have hb := HBK.out
              simp [World.setCell, Array.getElem?_modify, hb]
          · have HN := Aside0.mk hnext
            have hr' : ¬ 0 < x0 := fun h => absurd (hn0 (by decide) h) (by decide)
            have d3 : decide (x0 > 0) = false := decide_eq_false hr'
            have d4 : decide (0 < x0) = false := decide_eq_false hr'
            have d5 := eq_false hr' 
            clear hn0 hn1 hn2 hnext
            go_wp2
            repeat (go_quiet (fail); try go_wp2)
            refine ⟨⟨pre ++ [⟨2, p⟩], x0, x1, x2 - 1, 2, by simp, HN.out, ?_, ?_⟩, by simp [intOf]; omega⟩
            · first | exact Below.setCell HBW.out (Nat.le_refl _) _ | exact Below.setCell (pw_below_drewN HBW.out _) (Nat.le_refl _) _
            · have hb := HBK.out
              simp [World.setCell, Array.getElem?_modify, hb]
end Go.Proofs.Ytglafngeeggeeaa
