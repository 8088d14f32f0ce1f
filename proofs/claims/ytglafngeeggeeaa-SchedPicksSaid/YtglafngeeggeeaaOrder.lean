/- The contract of sched.Order, at tasks that are few: the turns that 'sched_Order.f' says; nothing that lay before is changed. By hand. -/
import Derived.Test.YtglafngeeggeeaaNamed
namespace Go.Proofs.Ytglafngeeggeeaa
open Go.RowKit Go.Proofs.YtglafngeeggeeaaW.PrintWords Go.Proofs.Ytglafngeeggeeaa.PSch
set_option linter.unusedVariables false
set_option linter.unusedSimpArgs false

/-- The locks behind a step. -/
def afterL (s n : Int) (L : Int → Option Int) : Int → Option Int :=
  if s < 0 then (if L (wrap64 (-s)) = some n then (fun x => if x = wrap64 (-s) then none else L x) else L)
  else if 0 < s then (fun x => if x = s then some n else L x) else L
theorem Run.mono {B : Nat} {w0 w : World} {gr ga bm : Nat} {A0 : Option Addr} {N c0 : Nat} {xs : List Int} {L : Int → Option Int} {q q' : Nat} (h : Run B w0 w gr ga bm A0 N c0 xs L q) (hq : q ≤ q') : Run B w0 w gr ga bm A0 N c0 xs L q' := by
  obtain ⟨D, h1, h2⟩ := h.lk
  exact ⟨h.below, h.hgr, h.hga, h.hbm, h.run, h.row, h.len, ⟨D, h1.mono hq, h2⟩⟩
theorem do_any {B : Nat} {w0 w : World} {gr ga bm : Nat} {A0 : Option Addr} {N c0 : Nat} {xs : List Int} {L : Int → Option Int} {q : Nat} {ts : List (List Int)}
    (hR : Run B w0 w gr ga bm A0 N c0 xs L q) (hB : B ≤ w.heap.size) (hC : KT.C w A0 N ts) (hF : FewT ts) (hN : ts.length = N) (n : Int) (h0 : 0 ≤ n) (h1 : n < (N : Int)) (hm : more ts xs n) (hq : q < 1000000000) :
    Calls Try.prog 19 #[.pointer (some ⟨gr, 0, none⟩), .int .i64 n] w fun e w' => e = .returned (.agg #[.int .i64 n, .int .i64 (rd xs n)]) ∧ Run B w0 w' gr ga bm A0 N c0 (xs.set n.toNat (rd xs n + 1)) (afterL (stepOf ts xs n) n L) (q + 1) ∧
      (w.heap.size ≤ w'.heap.size ∧ ∀ i, i < w.heap.size → i ≠ ga → i ≠ bm → w'.heap[i]? = w.heap[i]?) := by
  obtain ⟨aT, AR, cR, rfl, hrow, hst⟩ := step_cell hC n h0 h1
  obtain ⟨aR, rfl, hc⟩ := hst _ hm.1 hm.2
  have hlen := (hF.2 _ (rd_L1_mem ts n h0 (by omega))).1
  have hN2 := hF.1
  have hsw := step_wf ts hF xs n h0 (by omega) hm
  have hstep : w.cell? (aR.add (rd xs n).toNat) = some (.int .i64 (stepOf ts xs n)) := hc
  obtain ⟨c, hlook, hcv⟩ := (hR.alloc hB (.cells #[.int .i64 0, .int .i64 0] 37)).lk.look (wrap64 (-(stepOf ts xs n))) (wrap64_wf _)
  generalize stepOf ts xs n = s at *
  unfold afterL
  by_cases hs : s < 0
  · rw [if_pos hs]
    cases hL : L (wrap64 (-s)) with
    | none =>
      rw [hL] at hlook
      rw [if_neg (by simp)]
      exact (do_free hR hB (by omega) n _ s c h0 h1 aR _ cR rfl hm.1 hm.2 (by omega) hrow hstep (decide_eq_false (by omega)) hlook).mono fun e w' ⟨h2, h3, h4⟩ => ⟨h2, h3.mono (Nat.le_succ _), h4⟩
    | some v =>
      obtain rfl := hcv v hL
      rw [hL] at hlook
      by_cases hv : c = n
      · subst hv
        rw [if_pos rfl]
        exact (do_give hR hB (by omega) c _ s c h0 h1 aR _ cR rfl hm.1 hm.2 (by omega) hrow hstep (decide_eq_true hs) (decide_eq_false (by omega)) (by simp) hlook).mono fun e w' ⟨h2, h3, h4⟩ => ⟨h2, h3.mono (Nat.le_succ _), h4⟩
      · rw [if_neg (by simpa using hv)]
        exact (do_other hR hB (by omega) n _ s c h0 h1 aR _ cR rfl hm.1 hm.2 (by omega) hrow hstep (decide_eq_true hs) (decide_eq_false (by omega)) (by simpa using hv) hlook).mono fun e w' ⟨h2, h3, h4⟩ => ⟨h2, h3.mono (Nat.le_succ _), h4⟩
  · rw [if_neg hs]
    by_cases hp : 0 < s
    · rw [if_pos hp]
      exact do_take hR hB (by omega) n _ s c h0 h1 aR _ cR rfl hm.1 hm.2 (by omega) hrow hstep _ (decide_eq_false hs) (decide_eq_true hp) hsw hq hlook
    · rw [if_neg hp]
      exact (do_zero hR hB (by omega) n _ s c h0 h1 aR _ cR rfl hm.1 hm.2 (by omega) hrow hstep _ (decide_eq_false hs) (decide_eq_false hp) hlook).mono fun e w' ⟨h2, h3, h4⟩ => ⟨h2, h3.mono (Nat.le_succ _), h4⟩

/-! ### Order -/
/-- The task that is named in round i. -/
def nameOf (picks : List Int) (N : Nat) (i : Nat) (last : Int) : Int :=
  if (i : Int) < (picks.length : Int) then (Int.tmod (rd picks (i : Int)) (N : Int) + (N : Int)) % (N : Int) else (last + 1) % (N : Int)
/-- The turns from a state on: f of them at the most. -/
def turnsGo (ts : List (List Int)) (picks : List Int) (N : Nat) : Nat → Nat → Int → List Int → (Int → Option Int) → List S37
  | 0, _, _, _, _ => []
  | f + 1, i, last, xs, L =>
    if named ts xs L N (nameOf picks N i last) < 0 then []
    else ⟨named ts xs L N (nameOf picks N i last), rd xs (named ts xs L N (nameOf picks N i last))⟩ ::
      turnsGo ts picks N f (i + 1) (named ts xs L N (nameOf picks N i last)) (xs.set (named ts xs L N (nameOf picks N i last)).toNat (rd xs (named ts xs L N (nameOf picks N i last)) + 1))
        (afterL (stepOf ts xs (named ts xs L N (nameOf picks N i last))) (named ts xs L N (nameOf picks N i last)) L)
def total (ts : List (List Int)) : Nat := (ts.map List.length).sum
instance (k : Int) : Decidable (wf64 k) := by unfold wf64; infer_instance
instance (ts : List (List Int)) : Decidable (FewT ts) := by unfold FewT; infer_instance
def sched_Order.f (l0 : List (List Int)) (l1 : List Int) : Option (List S37) :=
  if FewT l0 ∧ l1.length ≤ 1000000 then
    some (if l0.length = 0 then [] else turnsGo l0 l1 l0.length (total l0 + 1) 0 (-1) (List.replicate l0.length 0) (fun _ => none))
  else none

/-! ### how far the tasks are -/
def InB (ts : List (List Int)) (N : Nat) (xs : List Int) : Prop := xs.length = N ∧ ∀ n : Int, 0 ≤ n → n < (N : Int) → 0 ≤ rd xs n ∧ rd xs n ≤ ((rd_L1 ts n).length : Int)
theorem rd_set (xs : List Int) (n m v : Int) (h0 : 0 ≤ n) (h1 : n < (xs.length : Int)) (h2 : 0 ≤ m) : rd (xs.set n.toNat v) m = if m = n then v else rd xs m := by
  unfold rd
  by_cases h : m = n
  · subst h
    rw [if_pos rfl]
    have : m.toNat < xs.length := by omega
    simp [List.getD_eq_getElem?_getD, this]
  · rw [if_neg h]
    have : n.toNat ≠ m.toNat := by omega
    simp [List.getD_eq_getElem?_getD, List.getElem?_set_ne this]
theorem InB.step {ts : List (List Int)} {N : Nat} {xs : List Int} (h : InB ts N xs) (n : Int) (h0 : 0 ≤ n) (h1 : n < (N : Int)) (hm : more ts xs n) : InB ts N (xs.set n.toNat (rd xs n + 1)) := by
  refine ⟨by rw [List.length_set]; exact h.1, fun m m0 m1 => ?_⟩
  rw [rd_set xs n m _ h0 (by have := h.1; omega) m0]
  have hh := h.2 m m0 m1
  have hmm := hm
  unfold more at hmm
  split
  · rename_i e; subst e; omega
  · exact hh
theorem sum_set (xs : List Int) (i : Nat) (v : Int) (h : i < xs.length) : (xs.set i v).sum = xs.sum - xs.getD i 0 + v := by
  induction xs generalizing i with
  | nil => simp at h
  | cons a l ih =>
    cases i with
    | zero => simp; omega
    | succ i =>
      simp only [List.length_cons] at h
      simp only [List.set_cons_succ, List.sum_cons, List.getD_cons_succ]
      rw [ih i (by omega)]; omega
theorem InB.sum_le {ts : List (List Int)} {N : Nat} {xs : List Int} (h : InB ts N xs) (hN : ts.length = N) : xs.sum ≤ (total ts : Int) ∧ 0 ≤ xs.sum := by
  unfold total
  obtain ⟨hl, hh⟩ := h
  subst hN
  induction ts generalizing xs with
  | nil =>
    have : xs = [] := List.eq_nil_of_length_eq_zero (by simpa using hl)
    subst this; simp
  | cons t ts ih =>
    cases xs with
    | nil => simp at hl
    | cons x xs =>
      have h0 := hh 0 (by omega) (by simp)
      have := @ih xs (by simpa using hl) (fun n n0 n1 => by
        have := hh (n + 1) (by omega) (by simp only [List.length_cons]; omega)
        have e : (n + 1).toNat = n.toNat + 1 := by omega
        simpa [rd, rd_L1, e] using this)
      simp [rd, rd_L1] at h0
      simp only [List.sum_cons, List.map_cons]
      omega

theorem named_cases (ts : List (List Int)) (xs : List Int) (L : Int → Option Int) (N : Nat) (hN : 0 < N) (s : Int) :
    named ts xs L N s = -1 ∨ (0 ≤ named ts xs L N s ∧ named ts xs L N s < (N : Int) ∧ canB ts xs L (named ts xs L N s) = true) := by
  unfold named
  cases h : ((List.range N).map fun (k : Nat) => (s + (k : Int)) % (N : Int)).find? (canB ts xs L) with
  | none => exact .inl rfl
  | some k =>
    refine .inr ?_
    have h1 := List.find?_some h
    have h2 := List.mem_of_find?_eq_some h
    obtain ⟨i, _, rfl⟩ := List.mem_map.1 h2
    exact ⟨Int.emod_nonneg _ (by omega), Int.emod_lt_of_pos _ (by omega), h1⟩
theorem can_more {ts : List (List Int)} {N : Nat} {xs : List Int} {L : Int → Option Int} (h : InB ts N xs) (n : Int) (h0 : 0 ≤ n) (h1 : n < (N : Int)) (hc : canB ts xs L n = true) : more ts xs n := by
  have := h.2 n h0 h1
  unfold canB at hc
  simp only [Bool.and_eq_true, Bool.not_eq_true', beq_eq_false_iff_ne, ne_eq] at hc
  unfold more
  have := hc.1
  omega
theorem nameOf_range (picks : List Int) (N : Nat) (hN : 0 < N) (i : Nat) (last : Int) : 0 ≤ nameOf picks N i last ∧ nameOf picks N i last < (N : Int) := by
  unfold nameOf
  split
  · exact ⟨Int.emod_nonneg _ (by omega), Int.emod_lt_of_pos _ (by omega)⟩
  · exact ⟨Int.emod_nonneg _ (by omega), Int.emod_lt_of_pos _ (by omega)⟩
theorem tmod_range (p : Int) (N : Nat) (hN : 0 < N) : -(N : Int) < Int.tmod p (N : Int) ∧ Int.tmod p (N : Int) < (N : Int) := by
  have h1 := Int.tmod_lt_of_pos p (b := (N : Int)) (by omega)
  have h2 := Int.lt_tmod_of_pos p (b := (N : Int)) (by omega)
  exact ⟨h2, h1⟩

set_option maxHeartbeats 1000000 in
theorem order_none (A0 : Option Addr) (c0 : Nat) (A1 : Option Addr) (n1 c1 : Nat) (w : World) :
    Calls Try.prog 11 #[.slice A0 0 c0, .slice A1 n1 c1] w fun e w' => e = .returned (.slice none 0 0) ∧ Below w.heap.size w w' := by
  have hmm := @run_makeMap Try.prog
  have hmk : ∀ W : World, (Instr.makeSlice 23 (.int .i64 0) (.int .i64 0)).run Try.prog W = .ok (.slice (some ⟨W.heap.size, 0, none⟩) 0 0) (W.alloc (.cells #[] 3)) := fun W => by kernel_rfl
  go_enter Try.func11, Try.ntmps11
  go_wp2_with (fail)
  go_loopw [6, 7, 8] (fun l _ _ wr => l = .slice none 0 0 ∧ Below w.heap.size w wr) (fun _ _ _ _ => 0)
  case atStart => exact ⟨rfl, (((Below.refl _ w).alloc (Nat.le_refl _) _).alloc (by simp) _).alloc (by simp; omega) _⟩
  case round =>
    obtain ⟨rfl, hB⟩ := hrel
    have HB := Lib.hid hB
    clear hB
    go_wp2
    go_ret
    exact ⟨rfl, HB.out⟩
theorem total_le {ts : List (List Int)} (h : FewT ts) : total ts ≤ 100000000 := by
  have : ∀ (l : List (List Int)), (∀ t ∈ l, t.length ≤ 1000) → (l.map List.length).sum ≤ 1000 * l.length := by
    intro l
    induction l with
    | nil => intro _; simp
    | cons a l ih =>
      intro hl
      have h1 := hl a (List.mem_cons_self)
      have h2 := ih (fun t ht => hl t (List.mem_cons_of_mem _ ht))
      simp only [List.map_cons, List.sum_cons, List.length_cons]
      omega
  have h1 := this ts (fun t ht => (h.2 t ht).1)
  have h2 := h.1
  unfold total
  omega
theorem more_lt {ts : List (List Int)} {N : Nat} {xs : List Int} (h : InB ts N xs) (hN : ts.length = N) (z : Int) (h0 : 0 ≤ z) (h1 : z < (N : Int)) (hm : more ts xs z) : xs.sum < (total ts : Int) := by
  have h2 := ((h.step z h0 h1 hm).sum_le hN).1
  have h3 := h.1
  rw [sum_set _ _ _ (by omega)] at h2
  unfold rd at h2
  omega
/-- The state of Order's loop. -/
structure OSt (w0 w : World) (A0 : Option Addr) (N c0 : Nat) (ts : List (List Int)) (v6 : Value) (acc : List S37) (i : Nat) (last : Int) (xs : List Int) (L : Int → Option Int) (q : Nat) : Prop where
  R : Kd.R k37 37 w w0.heap.size (fun _ => True) v6 acc
  run : Run w0.heap.size w0 w (w0.heap.size + 2) w0.heap.size (w0.heap.size + 1) A0 N c0 xs L q
  inb : InB ts N xs
  sum : xs.sum = (i : Int)
  len : acc.length = i
  qi : q ≤ i
  l0 : -1 ≤ last
  l1 : last < (N : Int)
theorem Run.append {B : Nat} {w0 W w1 : World} {gr ga bm : Nat} {A0 : Option Addr} {N c0 : Nat} {xs : List Int} {L : Int → Option Int} {q : Nat} {v : Value} (h : Run B w0 W gr ga bm A0 N c0 xs L q) (hg : W.grownBy w1 v.ownBlock)
    (hty : ∀ k, v.ownBlock = some k → ∃ cells, W.heap[k]? = some (.cells cells 37 (0, 0))) (hb : Below B w0 w1) : Run B w0 w1 gr ga bm A0 N c0 xs L q := by
  have n1 : ∀ {i : Nat} {o : Obj}, W.heap[i]? = some o → (∀ cells, o ≠ .cells cells 37 (0, 0)) → some i ≠ v.ownBlock := by
    intro i o hi ho e
    obtain ⟨cells, hc⟩ := hty i e.symm
    rw [hi] at hc
    injection hc with hc
    exact ho cells hc
  obtain ⟨es, c, hm⟩ := h.lk.isMap
  exact ⟨hb, h.hgr, h.hga, h.hbm, (hg.block gr (lt_of_heap h.run) (n1 h.run (fun cells e => by cases e))).trans h.run, (hg.block ga (lt_of_heap h.row) (n1 h.row (fun cells e => by cases e))).trans h.row, h.len, h.lk.kept (hg.block bm h.lk.lt (n1 hm (fun cells e => by cases e)))⟩
theorem R37_kept {B : Nat} {w0 w w' : World} {gr ga bm : Nat} {A0 : Option Addr} {N c0 : Nat} {xs : List Int} {L : Int → Option Int} {q base : Nat} {ok : Nat → Prop} {v : Value} {acc : List S37} (h : Run B w0 w gr ga bm A0 N c0 xs L q) (hR : Kd.R k37 37 w base ok v acc)
    (hf : ∀ i, i < w.heap.size → i ≠ ga → i ≠ bm → w'.heap[i]? = w.heap[i]?) : Kd.R k37 37 w' base ok v acc := by
  refine Kd.R_mono (Kd.R_move (Kd.R_bound hR) (fun k hk => ?_)) (fun _ hk => hk.1)
  obtain ⟨es, c, hm⟩ := h.lk.isMap
  obtain ⟨_, _, hlt, t, ht, cells, hc⟩ := hk
  refine hf k hlt ?_ ?_
  · rintro rfl
    rw [h.row] at hc
    injection hc with hc
    injection hc with _ hc
    subst hc
    simp [k37, Kd.iso, Kd.pair, Kd.int, Kd.scalar, Kd.E] at ht
  · rintro rfl
    rw [hm] at hc
    cases hc
theorem info37_ : (Try.prog.info? 37).map (fun i => (i.zero, i.size, i.bytes)) = some (some (.agg #[.int .i64 0, .int .i64 0]), 2, 16) := by kernel_rfl
theorem made_nums (N : Nat) : madeCells #[.int .i64 0] N = (nums .i64 (List.replicate N 0)).toArray := by
  apply Array.toList_inj.1
  apply List.ext_getElem
  · simp [nums, madeCells]
  · intro i h1 h2
    simp [nums, madeCells, Nat.mod_one]
theorem ost_start (w : World) (A0 : Option Addr) (N c0 : Nat) (ts : List (List Int)) (hN0 : 0 < N) :
    OSt w (((w.alloc (.cells (madeCells #[.int .i64 0] N) 3)).alloc (.map #[] 0)).alloc (.cells #[.slice A0 N c0, .slice (some ⟨w.heap.size, 0, none⟩) N N, .map (some (w.heap.size + 1))] 45)) A0 N c0 ts (.slice none 0 0) [] 0 (-1) (List.replicate N 0) (fun _ => none) 0 := by
  have hrd : ∀ n : Int, rd (List.replicate N 0) n = 0 := by
    intro n
    unfold rd
    simp [List.getD_eq_getElem?_getD, List.getElem?_replicate]
    split <;> rfl
  have hsum : ∀ n : Nat, (List.replicate n (0 : Int)).sum = 0 := by
    intro n
    induction n with
    | zero => rfl
    | succ n ih => rw [List.replicate_succ, List.sum_cons, ih]; rfl
  refine ⟨Kd.R_nil _ _ _ _ _, ⟨(((Below.refl _ w).alloc (Nat.le_refl _) _).alloc (by simp) _).alloc (by simp; omega) _, by omega, Nat.le_refl _, by omega, ?_, ?_, by simp, ?_⟩, ⟨by simp, fun n _ _ => by rw [hrd]; exact ⟨Int.le_refl _, Int.natCast_nonneg _⟩⟩, hsum N, rfl, Nat.le_refl _, by omega, by omega⟩
  · have h := blk_new ((w.alloc (.cells (madeCells #[.int .i64 0] N) 3)).alloc (.map #[] 0)) (.cells #[.slice A0 N c0, .slice (some ⟨w.heap.size, 0, none⟩) N N, .map (some (w.heap.size + 1))] 45)
    simpa using h
  · rw [Below.heap_alloc _ _ _ (by simp; omega), Below.heap_alloc _ _ _ (by simp), blk_new, made_nums]
  · have h := Lk.made (w.alloc (.cells (madeCells #[.int .i64 0] N) 3))
    rw [World.size_alloc] at h
    exact h.kept (Below.heap_alloc _ _ _ (by simp))
set_option maxHeartbeats 16000000 in
theorem order_some (A0 : Option Addr) (c0 : Nat) (ts : List (List Int)) (A1 : Option Addr) (c1 : Nat) (picks : List Int) (w : World) (N : Nat) (hC0 : KT.C w A0 N ts) (hC1 : Kd.C (Kd.int .i64) w A1 picks.length picks)
    (hF : FewT ts) (hp : picks.length ≤ 1000000) (hN : ts.length = N) (hN0 : 0 < N) :
    Calls Try.prog 11 #[.slice A0 N c0, .slice A1 picks.length c1] w fun e w' => ∃ v, e = .returned v ∧ Kd.R k37 37 w' w.heap.size (fun _ => True) v (turnsGo ts picks N (total ts + 1) 0 (-1) (List.replicate N 0) (fun _ => none)) ∧ Below w.heap.size w w' := by
  obtain ⟨r, hr0⟩ : ∃ r, turnsGo ts picks N (total ts + 1) 0 (-1) (List.replicate N 0) (fun _ => none) = r := ⟨_, rfl⟩
  rw [hr0]
  have hmm := @run_makeMap Try.prog
  have hN2 := hF.1
  have hN6 : N ≤ 1000000 := by omega
  have hmk := print_make 23 3 .i64 8 Try.underlying23 info3 (by omega) N (by omega)
  go_enter Try.func11, Try.ntmps11
  go_wp2_with (fail)
  go_loopw [6, 7, 8] (fun v6 v7 v8 wr => ∃ (acc : List S37) (i : Nat) (last : Int) (xs : List Int) (L : Int → Option Int) (q : Nat), v7 = .int .i64 last ∧ v8 = .int .i64 (i : Int) ∧ OSt w wr A0 N c0 ts v6 acc i last xs L q ∧ acc ++ turnsGo ts picks N (total ts + 1 - i) i last xs L = r) (fun _ _ v8 _ => total ts + 1 - (intOf v8).toNat)
  case atStart =>
    refine ⟨[], 0, -1, List.replicate N 0, fun _ => none, 0, rfl, rfl, ?_, hr0⟩
    exact ost_start w A0 N c0 ts hN0
  case round =>
    obtain ⟨acc, i, last, xs, L, q, rfl, rfl, hS, hr⟩ := hrel
    have hil : (i : Int) ≤ (total ts : Int) := by rw [← hS.sum]; exact (hS.inb.sum_le hN).1
    have hl0 := hS.l0
    have hit : total ts ≤ 100000000 := total_le hF
    have hl1 := hS.l1
    have hfu : total ts + 1 - i = (total ts + 1 - (i + 1)) + 1 := by omega
    rw [hfu] at hr
    simp only [turnsGo] at hr
    have hnr := nameOf_range picks N hN0 i last
    have hzc := named_cases ts xs L N hN0 (nameOf picks N i last)
    have hge : w.heap.size ≤ wr.heap.size := hS.run.below.size
    have HGE := Lib.hid hge
    have HS := Lib.hid hS
    have HC0 := Lib.hid hC0
    have HC1 := Lib.hid hC1
    have HF := Lib.hid hF
    have HN := Lib.hid hN
    clear hS hC0 hC1 hF hN hN2 hmk hmm hge
    have b0 : decide (0 < N) = true := decide_eq_true hN0
    have b1 : decide (0 < (N : Int)) = true := decide_eq_true (by omega)
    have e0 : ((N : Int) == 0) = false := by simpa using (show (N : Int) ≠ 0 by omega)
    have e1 : ¬ (N = 0) := by omega
    have e2 : Int.tmod (last + 1) (N : Int) = (last + 1) % (N : Int) := Int.tmod_eq_emod_of_nonneg (by omega)
    by_cases hi : (i : Int) < (picks.length : Int)
    · have b2 : decide ((i : Int) < (picks.length : Int)) = true := decide_eq_true hi
      have b3 : decide (i < picks.length) = true := decide_eq_true (by omega)
      have ht := tmod_range (rd picks (i : Int)) N hN0
      have hnm : nameOf picks N i last = Int.tmod (rd picks (i : Int)) (N : Int) % (N : Int) := by unfold nameOf; rw [if_pos hi, Int.add_emod_right]
      obtain ⟨a1, rfl, hc1⟩ := Kd.at_int HC1.out (i : Int) (by omega) hi
      have hc1' := pw_cell_below HS.out.run.below hc1
      rw [Int.toNat_natCast] at hc1'
      generalize rd picks (i : Int) = p at *
      have e3 : Int.tmod (Int.tmod p (N : Int) + (N : Int)) (N : Int) = (Int.tmod p (N : Int) + (N : Int)) % (N : Int) := Int.tmod_eq_emod_of_nonneg (by omega)
      have t1 := ht.1
      have t2 := ht.2
      clear ht hc1
      rw [hnm] at hr hnr hzc
      obtain ⟨z, hz⟩ : ∃ z, named ts xs L N (Int.tmod p (N : Int) % (N : Int)) = z := ⟨_, rfl⟩
      rw [hz] at hr hzc
      have HZ := Lib.hid hz
      have HNM := Lib.hid hnr
      clear hnm hnr hz hfu
      rcases hzc with hz | ⟨hz0, hz1, hz2⟩
      · subst hz
        rw [if_pos (by decide)] at hr
        have HR := Lib.hid hr
        clear hr
        go_wp2_with (go_at_call 18; refine (named_any HS.out.run (Kd.C_below HC0.out HS.out.run.below) HF.out HN.out hN0 _ HNM.out.1 HNM.out.2 (fun n n0 n1 => HS.out.inb.2 n n0 n1)).mono ?_; rintro e w1 ⟨rfl, hb⟩; rw [HZ.out]; (have HRun := Lib.hid (HS.out.run.grown hb HGE.out)); (have HR37 := Lib.hid (Kd.R_below HS.out.R hb)); (have HB1 := Lib.hid ((HS.out.run.below).trans (hb.mono HGE.out))); clear hb)
        go_ret
        have hacc := HR.out
        rw [List.append_nil] at hacc
        exact ⟨_, rfl, by rw [← hacc]; exact HR37.out, HB1.out⟩
      · have z0 : decide (z < 0) = false := decide_eq_false (by omega)
        rw [if_neg (by omega)] at hr
        have hmore := can_more HS.out.inb z hz0 hz1 hz2
        have hq : q < 1000000000 := by have := HS.out.qi; omega
        have HR := Lib.hid hr
        have HM := Lib.hid hmore
        clear hr hz2 hmore
        go_wp2_with (first | (go_at_call 18; refine (named_any HS.out.run (Kd.C_below HC0.out HS.out.run.below) HF.out HN.out hN0 _ HNM.out.1 HNM.out.2 (fun n n0 n1 => HS.out.inb.2 n n0 n1)).mono ?_; rintro e w1 ⟨rfl, hb⟩; rw [HZ.out]; (have HRun := Lib.hid (HS.out.run.grown hb HGE.out)); (have HR37 := Lib.hid (Kd.R_below HS.out.R hb)); (have HB1 := Lib.hid ((HS.out.run.below).trans (hb.mono HGE.out))); clear hb) | (go_at_call 19; refine (do_any HRun.out HB1.out.size (Kd.C_below HC0.out HB1.out) HF.out HN.out z hz0 hz1 HM.out hq).mono ?_; rintro e w2 ⟨rfl, hrun, hsz, hfr⟩; (have HRun2 := Lib.hid hrun); (have HR2 := Lib.hid (R37_kept HRun.out HR37.out hfr)); clear hsz hfr hrun) | ((with_reducible refine gate_builtin (b := .append) (xs := #[.tmp 49, .tmp 53]) rfl ?_); at_builtin; refine Kd.R_append k37 (w0 := w) w.heap.size rfl (.tmp 49) (.tmp 53) 27 37 (.agg #[.int .i64 0, .int .i64 0]) 16 rfl Try.underlying27 info37_ rfl (by decide) (by omega) u6 acc ⟨z, rd xs z⟩ [.int .i64 z, .int .i64 (rd xs z)] (fun _ => True) (fun _ => False) rfl rfl (k37_mkM _ _ _ _) (fun _ hk => hk.elim) (fun _ _ => trivial) HR2.out HRun2.out.below HRun2.out.below.size ?aL ?_; (case aL => rw [HS.out.len]; omega); intro v6' w3 ho hb hg hat; (have HR3 := Lib.hid ho); (have HRun3 := Lib.hid (HRun2.out.append hg (Kd.R_typed HR2.out) hb)); clear ho hb hg hat))
        refine ⟨⟨acc ++ [⟨z, rd xs z⟩], i + 1, z, xs.set z.toNat (rd xs z + 1), afterL (stepOf ts xs z) z L, q + 1, rfl, rfl, ⟨HR3.out, HRun3.out, HS.out.inb.step z hz0 hz1 HM.out, ?_, by rw [List.length_append, HS.out.len]; rfl, by have := HS.out.qi; omega, by omega, hz1⟩, ?_⟩, ?_⟩
        · have h1 := HS.out.inb.1
          have h2 := HS.out.sum
          rw [sum_set _ _ _ (by omega), h2]
          unfold rd
          push_cast
          omega
        · rw [List.append_assoc]
          exact HR.out
        · have hlt := more_lt HS.out.inb HN.out z hz0 hz1 HM.out
          rw [HS.out.sum] at hlt
          simp only [intOf]
          omega
    · have b2 : decide ((i : Int) < (picks.length : Int)) = false := decide_eq_false hi
      have b3 : decide (i < picks.length) = false := decide_eq_false (by omega)
      have hnm : nameOf picks N i last = (last + 1) % (N : Int) := by unfold nameOf; rw [if_neg hi]
      rw [hnm] at hr hnr hzc
      obtain ⟨z, hz⟩ : ∃ z, named ts xs L N ((last + 1) % (N : Int)) = z := ⟨_, rfl⟩
      rw [hz] at hr hzc
      have HZ := Lib.hid hz
      have HNM := Lib.hid hnr
      clear hnm hnr hz hfu
      rcases hzc with hz | ⟨hz0, hz1, hz2⟩
      · subst hz
        rw [if_pos (by decide)] at hr
        have HR := Lib.hid hr
        clear hr
        go_wp2_with (go_at_call 18; refine (named_any HS.out.run (Kd.C_below HC0.out HS.out.run.below) HF.out HN.out hN0 _ HNM.out.1 HNM.out.2 (fun n n0 n1 => HS.out.inb.2 n n0 n1)).mono ?_; rintro e w1 ⟨rfl, hb⟩; rw [HZ.out]; (have HRun := Lib.hid (HS.out.run.grown hb HGE.out)); (have HR37 := Lib.hid (Kd.R_below HS.out.R hb)); (have HB1 := Lib.hid ((HS.out.run.below).trans (hb.mono HGE.out))); clear hb)
        go_ret
        have hacc := HR.out
        rw [List.append_nil] at hacc
        exact ⟨_, rfl, by rw [← hacc]; exact HR37.out, HB1.out⟩
      · have z0 : decide (z < 0) = false := decide_eq_false (by omega)
        rw [if_neg (by omega)] at hr
        have hmore := can_more HS.out.inb z hz0 hz1 hz2
        have hq : q < 1000000000 := by have := HS.out.qi; omega
        have HR := Lib.hid hr
        have HM := Lib.hid hmore
        clear hr hz2 hmore
        go_wp2_with (first | (go_at_call 18; refine (named_any HS.out.run (Kd.C_below HC0.out HS.out.run.below) HF.out HN.out hN0 _ HNM.out.1 HNM.out.2 (fun n n0 n1 => HS.out.inb.2 n n0 n1)).mono ?_; rintro e w1 ⟨rfl, hb⟩; rw [HZ.out]; (have HRun := Lib.hid (HS.out.run.grown hb HGE.out)); (have HR37 := Lib.hid (Kd.R_below HS.out.R hb)); (have HB1 := Lib.hid ((HS.out.run.below).trans (hb.mono HGE.out))); clear hb) | (go_at_call 19; refine (do_any HRun.out HB1.out.size (Kd.C_below HC0.out HB1.out) HF.out HN.out z hz0 hz1 HM.out hq).mono ?_; rintro e w2 ⟨rfl, hrun, hsz, hfr⟩; (have HRun2 := Lib.hid hrun); (have HR2 := Lib.hid (R37_kept HRun.out HR37.out hfr)); clear hsz hfr hrun) | ((with_reducible refine gate_builtin (b := .append) (xs := #[.tmp 49, .tmp 53]) rfl ?_); at_builtin; refine Kd.R_append k37 (w0 := w) w.heap.size rfl (.tmp 49) (.tmp 53) 27 37 (.agg #[.int .i64 0, .int .i64 0]) 16 rfl Try.underlying27 info37_ rfl (by decide) (by omega) u6 acc ⟨z, rd xs z⟩ [.int .i64 z, .int .i64 (rd xs z)] (fun _ => True) (fun _ => False) rfl rfl (k37_mkM _ _ _ _) (fun _ hk => hk.elim) (fun _ _ => trivial) HR2.out HRun2.out.below HRun2.out.below.size ?aL ?_; (case aL => rw [HS.out.len]; omega); intro v6' w3 ho hb hg hat; (have HR3 := Lib.hid ho); (have HRun3 := Lib.hid (HRun2.out.append hg (Kd.R_typed HR2.out) hb)); clear ho hb hg hat))
        refine ⟨⟨acc ++ [⟨z, rd xs z⟩], i + 1, z, xs.set z.toNat (rd xs z + 1), afterL (stepOf ts xs z) z L, q + 1, rfl, rfl, ⟨HR3.out, HRun3.out, HS.out.inb.step z hz0 hz1 HM.out, ?_, by rw [List.length_append, HS.out.len]; rfl, by have := HS.out.qi; omega, by omega, hz1⟩, ?_⟩, ?_⟩
        · have h1 := HS.out.inb.1
          have h2 := HS.out.sum
          rw [sum_set _ _ _ (by omega), h2]
          unfold rd
          push_cast
          omega
        · rw [List.append_assoc]
          exact HR.out
        · have hlt := more_lt HS.out.inb HN.out z hz0 hz1 HM.out
          rw [HS.out.sum] at hlt
          simp only [intOf]
          omega
theorem sched_Order.calls (A0 : Option Addr) (c0 : Nat) (l0 : List (List Int)) (A1 : Option Addr) (c1 : Nat) (l1 : List Int) (r : List S37) (w : World) (hr0 : Kd.C (Kd.slice 3 (Kd.int .i64)) w A0 l0.length l0) (hc0 : l0.length ≤ c0) (hr1 : Kd.C (Kd.int .i64) w A1 l1.length l1) (hc1 : l1.length ≤ c1) (h : sched_Order.f l0 l1 = some r) :
    Calls Try.prog 11 #[.slice A0 l0.length c0, .slice A1 l1.length c1] w fun e w' => ∃ v0_ : Value, e = .returned v0_ ∧ Kd.R k37 37 w' w.heap.size (fun _ => True) v0_ r ∧ Below w.heap.size w w' := by
  unfold sched_Order.f at h
  split at h
  · rename_i hf
    have h' := Option.some.inj h
    by_cases h0 : l0.length = 0
    · rw [if_pos h0] at h'
      subst h'
      rw [h0]
      refine (order_none A0 c0 A1 l1.length c1 w).mono ?_
      rintro e w' ⟨rfl, hb⟩
      exact ⟨_, rfl, Kd.R_nil _ _ _ _ _, hb⟩
    · rw [if_neg h0] at h'
      subst h'
      exact order_some A0 c0 l0 A1 c1 l1 w l0.length hr0 hr1 hf.1 hf.2 rfl (by omega)
  · cases h
end Go.Proofs.Ytglafngeeggeeaa
