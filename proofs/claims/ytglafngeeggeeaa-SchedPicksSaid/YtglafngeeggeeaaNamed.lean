/- The contract of (*run).named: the first task from one on that can run; -1: none can. By hand. -/
import Derived.Test.YtglafngeeggeeaaFrom
namespace Go.Proofs.Ytglafngeeggeeaa
open Go.RowKit Go.Shelf Go.Proofs.YtglafngeeggeeaaW.PrintWords Go.Proofs.Ytglafngeeggeeaa.PSch
attribute [local go_sem] Oper.semAt_some
set_option linter.unusedVariables false
set_option linter.unusedSimpArgs false

theorem cell_new_l (W : World) (v : Value) (t : TypeId) : (W.alloc (.cells #[v] t)).cell? ⟨W.heap.size, 0, none⟩ = some v ∧ (W.alloc (.cells #[v] t)).frozen? ⟨W.heap.size, 0, none⟩ = false :=
  ⟨World.cell?_alloc_new W #[v] t 0, World.frozen?_alloc_new W #[v] t 0⟩
theorem cell_alloc_l {W : World} {a : Addr} {v : Value} (o : Obj) (h : W.cell? a = some v) : (W.alloc o).cell? a = some v :=
  pw_cell_below ((Below.refl _ _).alloc (Nat.le_refl _) o) h
theorem frozen_alloc_l {W : World} {a : Addr} {v : Value} (o : Obj) (h : W.cell? a = some v) (hf : W.frozen? a = false) : (W.alloc o).frozen? a = false :=
  (frozen_kept h (World.grownBy_alloc W o none) (fun r e => by cases e)).trans hf
theorem keeps_drewN (W : World) (m : Nat) : KeepsOthers W (W.drewN m) := ⟨Nat.le_refl _, fun _ _ h _ => h⟩

/-- The k-th task from s on. -/
def taskAt (N : Nat) (hN : 0 < N) (s : Int) (k : Nat) : TaskN N := ⟨(s + (k : Int)) % (N : Int), Int.emod_nonneg _ (by omega), Int.emod_lt_of_pos _ (by omega)⟩
/-- The first task from s on that can run; -1: none can. -/
def named (ts : List (List Int)) (xs : List Int) (L : Int → Option Int) (N : Nat) (s : Int) : Int :=
  (((List.range N).map fun (k : Nat) => (s + (k : Int)) % (N : Int)).find? (canB ts xs L)).getD (-1)

set_option maxRecDepth 100000 in
set_option maxHeartbeats 2000000 in
theorem from_any (gr : Nat) (s : Int) (w : World) :
    CallsIn Fence.wide 2 Try.prog 22 #[.pointer (some ⟨gr, 0, none⟩), .int .i64 s] w fun e w' => e = .returned (.func (.func 25) #[] #[.pointer (some ⟨w.heap.size, 0, none⟩), .pointer (some ⟨w.heap.size + 1, 0, none⟩)]) ∧ w' = (w.alloc (.cells #[.pointer (some ⟨gr, 0, none⟩)] 42)).alloc (.cells #[.int .i64 s] 3) := by
  refine callsIn_of_wp Try.func22 rfl trivial ?_ rfl
  simp only [Try.ntmps22, List.size_toArray, List.length_cons, List.length_nil, Nat.reduceAdd, Nat.reduceSub, Array.replicate_succ, Array.replicate_zero, List.push_toArray, List.append_toArray, List.nil_append, List.cons_append]
  gi_wp2
  go_ret
  exact ⟨rfl, rfl⟩

theorem upto_take {α : Type} (f : Nat → α) {k N : Nat} (hk : k ≤ N) : upto f k = (upto f N).take k := by
  apply List.ext_getElem
  · simp [upto, hk]
  · intro i h1 h2
    simp [upto]
theorem from_stops (n : Nat) (hn : 1 ≤ n) (Br Bn gr n₀ N c0 : Nat) (A0 : Option Addr) (s : Int) (hN0 : 0 < N) (hN : N ≤ 1000000) (hs0 : 0 ≤ s) (hs1 : s < (N : Int)) (hBr : Br < n₀) (hBn : Bn < n₀) (hgr : gr < n₀) (w : World) (hn₀ : n₀ ≤ w.heap.size)
    (hcr : w.cell? ⟨Br, 0, none⟩ = some (.pointer (some ⟨gr, 0, none⟩))) (hcn : w.cell? ⟨Bn, 0, none⟩ = some (.int .i64 s)) (hct : w.cell? ⟨gr, 0, none⟩ = some (.slice A0 N c0)) :
    SeqStopsK Fence.wide n Try.prog 25 #[.pointer (some ⟨Br, 0, none⟩), .pointer (some ⟨Bn, 0, none⟩)] (fun x : TaskN N => #[Value.int .i64 x.1]) (Below n₀) (fun ys => ys = upto (taskAt N hN0 s) N) (fun pre => pre <+: upto (taskAt N hN0 s) N) N w := fun l J Jx W hW hJ _ hY h0 => by
  have c1 := (hW.cell (p := ⟨Br, 0, none⟩) (show Br < w.heap.size by omega)).trans hcr
  have c2 := (hW.cell (p := ⟨Bn, 0, none⟩) (show Bn < w.heap.size by omega)).trans hcn
  have c3 := (hW.cell (p := ⟨gr, 0, none⟩) (show gr < w.heap.size by omega)).trans hct
  refine (from1_in n hn l Br Bn gr n₀ N c0 A0 s hN hs0 hs1 (fun x : TaskN N => x.1) (taskAt N hN0 s) (fun _ _ => rfl) hBr hBn hgr J Jx hY (fun pre W' hj => hJ pre W' W'.drew none hj ⟨rfl, rfl, rfl, Nat.le_refl _, fun _ _ _ => rfl⟩ (fun r e => by cases e)) W c1 c2 c3 h0).mono ?_
  rintro e W' ⟨he, ⟨ys, rfl, hj⟩ | ⟨pre, ⟨k, hk, rfl⟩, hj⟩⟩
  · exact ⟨he, .inl ⟨_, rfl, hj⟩⟩
  · refine ⟨he, .inr ⟨_, ?_, hj⟩⟩
    rw [upto_take _ hk]
    exact List.take_prefix _ _

theorem find_upto (N : Nat) (hN0 : 0 < N) (s : Int) (c : Int → Bool) : (((List.range N).map fun (k : Nat) => (s + (k : Int)) % (N : Int)).find? c) = ((upto (taskAt N hN0 s) N).find? (fun x => c x.1)).map (·.1) := by
  have e : ((List.range N).map fun (k : Nat) => (s + (k : Int)) % (N : Int)) = (upto (taskAt N hN0 s) N).map (·.1) := by
    unfold upto; rw [List.map_map]; rfl
  rw [e, List.find?_map]
  rfl

set_option maxRecDepth 100000 in
set_option maxHeartbeats 2000000 in
theorem named_any {B : Nat} {w0 w : World} {gr ga bm : Nat} {A0 : Option Addr} {N c0 : Nat} {xs : List Int} {L : Int → Option Int} {q : Nat} {ts : List (List Int)}
    (hR : Run B w0 w gr ga bm A0 N c0 xs L q) (hC : KT.C w A0 N ts) (hF : FewT ts) (hN : ts.length = N) (hN0 : 0 < N) (s : Int) (h0 : 0 ≤ s) (h1 : s < (N : Int)) (hx : ∀ n : Int, 0 ≤ n → n < (N : Int) → 0 ≤ rd xs n ∧ rd xs n ≤ ((rd_L1 ts n).length : Int)) :
    Calls Try.prog 18 #[.pointer (some ⟨gr, 0, none⟩), .int .i64 s] w fun e w' => e = .returned (.int .i64 (named ts xs L N s)) ∧ Below w.heap.size w w' := by
  refine (callsIn_wide (n := 3)).1 ?_
  refine callsIn_of_wp_marks Try.func18 rfl trivial ?_ rfl
  simp only [Try.ntmps18, List.size_toArray, List.length_cons, List.length_nil, Nat.reduceAdd, Nat.reduceSub, Array.replicate_succ, Array.replicate_zero, List.push_toArray, List.append_toArray, List.nil_append, List.cons_append]
  gi_wp2_with (refine ⟨trivial, ?_⟩; gi_at_call 22; refine (from_any gr s _).mono ?_; rintro e w' ⟨rfl, rfl⟩)
  have q0 := cell_new_l w (.pointer (some ⟨gr, 0, none⟩)) 42
  have q1 := cell_new_l (w.alloc (.cells #[.pointer (some ⟨gr, 0, none⟩)] 42)) (.int .i64 0) 3
  have q2 := cell_new_l ((w.alloc (.cells #[.pointer (some ⟨gr, 0, none⟩)] 42)).alloc (.cells #[.int .i64 0] 3)) (.pointer (some ⟨gr, 0, none⟩)) 42
  have q3 := cell_new_l (((w.alloc (.cells #[.pointer (some ⟨gr, 0, none⟩)] 42)).alloc (.cells #[.int .i64 0] 3)).alloc (.cells #[.pointer (some ⟨gr, 0, none⟩)] 42)) (.int .i64 s) 3
  simp only [World.size_alloc] at q1 q2 q3
  have hlt := lt_of_heap hR.run
  have hbase : B ≤ w.heap.size := by have := hR.hgr; omega
  obtain ⟨W0, hW0⟩ : ∃ W0, ((((w.alloc (.cells #[.pointer (some ⟨gr, 0, none⟩)] 42)).alloc (.cells #[.int .i64 0] 3)).alloc (.cells #[.pointer (some ⟨gr, 0, none⟩)] 42)).alloc (.cells #[.int .i64 s] 3)) = W0 := ⟨_, rfl⟩
  have hsz : W0.heap.size = w.heap.size + 4 := by rw [← hW0]; simp
  have hB0 : Below w.heap.size w W0 := by
    rw [← hW0]
    exact ((((Below.refl _ w).alloc (Nat.le_refl _) _).alloc (by simp) _).alloc (by simp; omega) _).alloc (by simp; omega) _
  have r0 : W0.cell? ⟨w.heap.size, 0, none⟩ = some (.pointer (some ⟨gr, 0, none⟩)) := by rw [← hW0]; exact cell_alloc_l _ (cell_alloc_l _ (cell_alloc_l _ q0.1))
  have r1 : W0.cell? ⟨w.heap.size + 1, 0, none⟩ = some (.int .i64 0) := by rw [← hW0]; exact cell_alloc_l _ (cell_alloc_l _ q1.1)
  have f1 : W0.frozen? ⟨w.heap.size + 1, 0, none⟩ = false := by rw [← hW0]; exact frozen_alloc_l _ (cell_alloc_l _ q1.1) (frozen_alloc_l _ q1.1 q1.2)
  have r2 : W0.cell? ⟨w.heap.size + 1 + 1, 0, none⟩ = some (.pointer (some ⟨gr, 0, none⟩)) := by rw [← hW0]; exact cell_alloc_l _ q2.1
  have r3 : W0.cell? ⟨w.heap.size + 1 + 1 + 1, 0, none⟩ = some (.int .i64 s) := by rw [← hW0]; exact q3.1
  rw [hW0]
  clear q0 q1 q2 q3 hW0
  have hct := (hR.grown hB0 hbase).cell0
  have hN6 : N ≤ 1000000 := by have := hF.1; omega
  refine wpIn_rangeFunc_ownF rfl (by omega) (gf := 25) (lb := #[.pointer (some ⟨w.heap.size + 1 + 1, 0, none⟩), .pointer (some ⟨w.heap.size + 1 + 1 + 1, 0, none⟩)]) rfl trivial (enters_of Try.func25 (by kernel_rfl) rfl)
    (from_stops 2 (by omega) (w.heap.size + 1 + 1) (w.heap.size + 1 + 1 + 1) gr (w.heap.size + 4) N c0 A0 s hN0 hN6 h0 h1 (by omega) (by omega) (by omega) W0 (by omega) r2 r3 hct) belowK_t (belowK_b (by omega)) (Below.refl _ _) (fun _ => rfl)
    (fun pre W => ((∀ y ∈ pre, canB ts xs L y.1 = false) ∧ W.cell? ⟨w.heap.size, 0, none⟩ = some (.pointer (some ⟨gr, 0, none⟩)) ∧ W.cell? ⟨w.heap.size + 1, 0, none⟩ = some (.int .i64 0) ∧ W.frozen? ⟨w.heap.size + 1, 0, none⟩ = false) ∧ Below w.heap.size w W)
    (fun c pre W => (c = .ret ∧ ∃ x, pre.find? (fun y => canB ts xs L y.1) = some x ∧ W.cell? ⟨w.heap.size + 1, 0, none⟩ = some (.int .i64 x.1)) ∧ Below w.heap.size w W)
    (OwnFrom.and (Own.from (fun s A B row hs hg hr => ⟨hs.1, cell_kept hs.2.1 hg hr, cell_kept hs.2.2.1 hg hr, (frozen_kept hs.2.2.1 hg hr).trans hs.2.2.2⟩) _) (ownFrom_below (Nat.le_refl _) (by omega)))
    (fun c => OwnFrom.and (Own.from (fun s A B row hs hg hr => ⟨hs.1, hs.2.choose, hs.2.choose_spec.1, cell_kept hs.2.choose_spec.2 hg hr⟩) _) (ownFrom_below (Nat.le_refl _) (by omega)))
    ⟨⟨by simp, r0, r1, f1⟩, hB0⟩
    (fun x => { tmps := #[.pointer (some ⟨gr, 0, none⟩), .int .i64 s, .pointer (some ⟨w.heap.size, 0, none⟩), undef, .pointer (some ⟨w.heap.size + 1, 0, none⟩), .int .i64 x.1, .pointer (some ⟨gr, 0, none⟩), .int .i64 s, .func (.func 25) #[] #[.pointer (some ⟨w.heap.size + 1 + 1, 0, none⟩), .pointer (some ⟨w.heap.size + 1 + 1 + 1, 0, none⟩)], .int .i64 x.1, undef, undef, undef, undef], defers := [] }) ?assign ?body ?done ?stop
  case assign =>
    intro l x W K hK
    gi_wp2
    exact hK
  case body =>
    rintro l pre x W ⟨⟨hp, hc0, hc1, hf1⟩, hB⟩ _
    have hRW := hR.grown hB hbase
    have hcan := can_any hRW (Kd.C_below hC hB) hF hN x.1 x.2.1 x.2.2 (hx x.1 x.2.1 x.2.2)
    have HB := Lib.hid hB
    have HP := Lib.hid hp
    by_cases hb : canB ts xs L x.1 = true
    · rw [hb] at hcan
      have HC := Lib.hid hcan
      have HBB := Lib.hid hb
      clear hcan hb hB hp hRW hR hC hF hN hx hct hB0 r0 r1 r2 r3 f1
      gi_wp2_with (refine ⟨trivial, ?_⟩; gi_at_call 23; refine (CallsIn.inRound l (callsIn_wide.2 HC.out)).mono ?_; rintro e w' ⟨rfl, m, rfl⟩)
      refine ⟨(keeps_drewN W m).trans (KeepsOthers.setCell _ _ _), ⟨rfl, x, ?_, ?_⟩, ?_⟩
      · rw [List.find?_append, List.find?_eq_none.2 (fun y hy => by rw [HP.out y hy]; simp)]
        simp [HBB.out]
      · exact World.cell?_setCell_same' _ _ _ (by rw [show (W.drewN m).cell? _ = _ from hc1]; rfl)
      · exact (pw_below_drewN HB.out m).setCell (p := ⟨w.heap.size + 1, 0, none⟩) (by simp) _
    · have hb' : canB ts xs L x.1 = false := by simpa using hb
      rw [hb'] at hcan
      have HC := Lib.hid hcan
      have HBB := Lib.hid hb'
      clear hcan hb hb' hB hp hRW hR hC hF hN hx hct hB0 r0 r1 r2 r3 f1
      gi_wp2_with (refine ⟨trivial, ?_⟩; gi_at_call 23; refine (CallsIn.inRound l (callsIn_wide.2 HC.out)).mono ?_; rintro e w' ⟨rfl, m, rfl⟩)
      refine ⟨keeps_drewN W m, pw_below_drewN (Below.refl _ _) m, ⟨?_, hc0, hc1, hf1⟩, pw_below_drewN HB.out m⟩
      intro y hy
      rcases List.mem_append.1 hy with hy | hy
      · exact HP.out y hy
      · rw [List.mem_singleton.1 hy]; exact HBB.out
  case done =>
    rintro D ys W hD rfl ⟨⟨hne, _, hcr, hfr⟩, hB⟩ hK
    have hres : named ts xs L N s = -1 := by
      unfold named
      rw [find_upto N hN0, List.find?_eq_none.2 (fun y hy => by rw [hne y hy]; simp)]
      rfl
    have HB := Lib.hid hB
    have HRES := Lib.hid hres
    clear hres hne hB hR hC hF hN hx hct hB0 r0 r1 r2 r3 f1
    gi_wp2
    have hK' := (KeepsOthers.setCell W ⟨w.heap.size + 1, 0, none⟩ (.int .i64 (-1))).same D _ hK rfl
    refine ⟨by simp, .inl ⟨_, _, rfl, run_takeDeferred hK', ?_⟩⟩
    have hc5 := cell_kept (World.cell?_setCell_same' W ⟨w.heap.size + 1, 0, none⟩ (.int .i64 (-1)) (by rw [hcr]; rfl)) (grownBy_putObj' _ D (.deferred none)) (fun r e => by cases e; exact ⟨_, hK', rfl⟩)
    refine ⟨.int .i64 (-1), ?_, by rw [HRES.out], (HB.out.setCell (p := ⟨w.heap.size + 1, 0, none⟩) (by simp) _).trans (belowK_b (w := w) (Nat.le_refl _) _ D _ _ (by omega) hK' rfl rfl)⟩
    simp [results, Try.f18, go_sem, hc5]
  case stop =>
    rintro D c pre W hD hpre ⟨⟨rfl, x, hin, hcr⟩, hB⟩ hK
    have hres : named ts xs L N s = x.1 := by
      unfold named
      obtain ⟨rest, hrest⟩ := hpre
      rw [find_upto N hN0, ← hrest, List.find?_append, hin]
      rfl
    have HB := Lib.hid hB
    have HRES := Lib.hid hres
    clear hres hin hB hR hC hF hN hx hct hB0 r0 r1 r2 r3 f1
    gi_wp2
    refine ⟨by simp, .inl ⟨_, _, rfl, run_takeDeferred hK, ?_⟩⟩
    have hc5 := cell_kept hcr (grownBy_putObj' _ D (.deferred none)) (fun r e => by cases e; exact ⟨_, hK, rfl⟩)
    refine ⟨.int .i64 x.1, ?_, by rw [HRES.out], HB.out.trans (belowK_b (w := w) (Nat.le_refl _) W D _ _ (by omega) hK rfl rfl)⟩
    simp [results, Try.f18, go_sem, hc5]
end Go.Proofs.Ytglafngeeggeeaa
