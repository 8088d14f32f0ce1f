/- strings.makeGenericReplacer for "%2e" and "%2E": the map and the trie that it lays. -/
import Derived.Test.YtedkaedeahobjaaMap
import Derived.Deep.MidRow
namespace Go.Proofs.Ytedkaedeahobjaa
open Go.RowKit Go.Proofs.YtedkaedeahobjaaW.PrintWords
set_option linter.unusedVariables false
set_option linter.unusedSimpArgs false

attribute [local go_sem] alloc_drewN setCell_drewN frozen_drewN
theorem cell_of (w : World) (g j : Nat) (M : Array Value) (hg : w.heap[g]? = some (.cells M 100 (0, 0))) {v : Value} (hv : M[j]? = some v) : w.cell? ⟨g, j, none⟩ = some v := by
  simp [World.cell?, hg, hv]
theorem set_at_ (w : World) (g j : Nat) (M : Array Value) (v : Value) (hg : w.heap[g]? = some (.cells M 100 (0, 0))) : (w.setCell ⟨g, j, none⟩ v).heap[g]? = some (.cells (M.setIfInBounds j v) 100 (0, 0)) := by
  simp [World.setCell, Array.getElem?_modify, hg]
theorem fz_of (w : World) (g j : Nat) (M : Array Value) (hg : w.heap[g]? = some (.cells M 100 (0, 0))) : w.frozen? ⟨g, j, none⟩ = false := by
  simp [World.frozen?, hg]

theorem nat256 : ((256 : Nat) : Int) = 256 := rfl
theorem wrapi1 : IntKind.i64.wrap 1 = 1 := rfl
theorem wrapi2 : IntKind.i64.wrap 2 = 2 := rfl
theorem wrapi3 : IntKind.i64.wrap 3 = 3 := rfl
theorem wrapi4 : IntKind.i64.wrap 4 = 4 := rfl
attribute [local go_sem] wrapi1 wrapi2 wrapi3 wrapi4
/-- A replacer as it is laid: the map, the table at the root, the nodes; all from block B on. -/
def GR (w : World) (B g : Nat) : Prop := ∃ (M : Array Value) (T n1 n3 T3 k m : Nat), (B ≤ g ∧ B ≤ T ∧ B ≤ n1 ∧ B ≤ n3 ∧ B ≤ T3 ∧ B ≤ k ∧ B ≤ m) ∧
  w.heap[g]? = some (.cells M 100 (0, 0)) ∧ GM M 4 (.slice (some ⟨T, 0, none⟩) 4 4) fin_ ∧ w.heap[T]? = some (.cells #[.pointer (some ⟨n1, 0, none⟩), .pointer none, .pointer none, .pointer none] 95 (0, 0)) ∧
  Node w n1 (⟨#[]⟩ : ByteArray) 0 (⟨#[50]⟩ : ByteArray) (.pointer (some ⟨n3, 0, none⟩)) (.slice none 0 0) ∧ Node w n3 (⟨#[]⟩ : ByteArray) 0 (⟨#[]⟩ : ByteArray) (.pointer none) (.slice (some ⟨T3, 0, none⟩) 4 4) ∧
  w.heap[T3]? = some (.cells #[.pointer none, .pointer none, .pointer (some ⟨k, 0, none⟩), .pointer (some ⟨m, 0, none⟩)] 95 (0, 0)) ∧
  Node w k (⟨#[46]⟩ : ByteArray) 2 (⟨#[]⟩ : ByteArray) (.pointer none) (.slice none 0 0) ∧ Node w m (⟨#[46]⟩ : ByteArray) 4 (⟨#[]⟩ : ByteArray) (.pointer none) (.slice none 0 0)
theorem Node.ne {w : World} {n m : Nat} {v v' : ByteArray} {p p' : Int} {x x' : ByteArray} {nx nx' tb tb' : Value} (h : Node w n v p x nx tb) (h' : Node w m v' p' x' nx' tb') (hx : p ≠ p') : n ≠ m := by
  rintro rfl
  unfold Node at h h'
  rw [h] at h'
  simp at h'
  exact hx h'.2.1
/-- The marks, by value. -/
def agL : List Value := (List.range 256).map fun x => .int .u8 (st 6 x)
theorem agL_size : agL.length = 256 := by unfold agL; rw [List.length_map, List.length_range]
theorem agL_get (x : Nat) (h : x < 256) : agL[x]? = some (.int .u8 (st 6 x)) := by
  unfold agL
  rw [List.getElem?_map, List.getElem?_range h]; rfl
theorem agL_range (w : World) (g : Nat) (M : Array Value) (ts : Int) (tb : Value) (hg : w.heap[g]? = some (.cells M 100 (0, 0))) (hM : GM M ts tb (st 6)) : w.rangeAt g 6 agL := by
  intro j v hj
  have hlt : j < 256 := by have := (List.getElem?_eq_some_iff.1 hj).1; rwa [agL_size] at this
  rw [agL_get j hlt] at hj
  obtain rfl := Option.some.inj hj
  exact cell_of w g (6 + j) M hg (hM.map j hlt)
set_option maxHeartbeats 4000000 in
set_option maxRecDepth 100000 in
theorem gen_walk (b cp : Nat) (w : World) (h0 : w.cell? ⟨b, 0, none⟩ = some (.string ⟨#[37, 50, 101]⟩)) (h1 : w.cell? ⟨b, 1, none⟩ = some (.string ⟨#[46]⟩)) (h2 : w.cell? ⟨b, 2, none⟩ = some (.string ⟨#[37, 50, 69]⟩)) (h3 : w.cell? ⟨b, 3, none⟩ = some (.string ⟨#[46]⟩)) :
    Calls Try.prog 53 #[.slice (some ⟨b, 0, none⟩) 4 cp] w fun e w' => ∃ g, e = .returned (.pointer (some ⟨g, 0, none⟩)) ∧ GR w' w.heap.size g ∧ Below w.heap.size w w' := by
  have hmix : Try.prog.follows .mixedOrders = true := by kernel_rfl
  have H0 := Aside0.mk h0
  have H1 := Aside0.mk h1
  have H2 := Aside0.mk h2
  have H3 := Aside0.mk h3
  clear h0 h1 h2 h3
  go_enter Try.func53, Try.ntmps53
  go_wp2
  go_loopw [4] (fun v4 wr => ∃ (i : Nat) (M : Array Value), ((i = 0 ∧ v4 = .int .i64 0) ∨ (i = 1 ∧ v4 = .int .i64 2) ∨ (i = 2 ∧ v4 = .int .i64 4)) ∧ wr.heap[w.heap.size]? = some (.cells M 100 (0, 0)) ∧ GM M 0 (.slice none 0 0) (st (3 * i)) ∧ wr.heap.size = w.heap.size + 1 ∧ Mod w wr (fun _ => False)) (fun v _ => 5 - (intOf v).toNat)
  case atStart => exact ⟨0, _, .inl ⟨rfl, rfl⟩, blk_new w _, GM.start, by simp, (Mod.refl w _).alloc _⟩
  case round =>
    obtain ⟨i, M, hi, hg, hM, hsz, hmd⟩ := hrel
    have s0 := pw_cell_below (hmd.below (Nat.le_refl _) (fun _ h => h.elim)) H0.out
    have s2 := pw_cell_below (hmd.below (Nat.le_refl _) (fun _ h => h.elim)) H2.out
    have HG := Aside0.mk hg
    have HM := Aside0.mk hM
    have HS := Aside0.mk hsz
    have HD := Aside0.mk hmd
    clear hg hM hsz hmd
    rcases hi with ⟨rfl, rfl⟩ | ⟨rfl, rfl⟩ | ⟨rfl, rfl⟩
    · go_wp2
      go_loopw [6] (fun v6 wq => ∃ (j : Nat) (M : Array Value), ((j = 0 ∧ v6 = .int .i64 0) ∨ (j = 1 ∧ v6 = .int .i64 1) ∨ (j = 2 ∧ v6 = .int .i64 2) ∨ (j = 3 ∧ v6 = .int .i64 3)) ∧ wq.heap[w.heap.size]? = some (.cells M 100 (0, 0)) ∧ GM M 0 (.slice none 0 0) (st (0 + j)) ∧ wq.heap.size = w.heap.size + 1 ∧ Mod w wq (fun _ => False)) (fun v _ => 4 - (intOf v).toNat)
      case atStart => exact ⟨0, M, .inl ⟨rfl, rfl⟩, HG.out, HM.out, HS.out, HD.out⟩
      case round =>
        obtain ⟨j, M', hj, hg', hM', hsz', hmd'⟩ := hrel
        rcases hj with ⟨rfl, rfl⟩ | ⟨rfl, rfl⟩ | ⟨rfl, rfl⟩ | ⟨rfl, rfl⟩
        · have d0 := cell_of wr w.heap.size 43 M' hg' (hM'.map 37 (by omega))
          have d1 := fz_of wr w.heap.size 43 M' hg'
          have e0 : ∀ h, (((⟨#[37, 50, 101]⟩ : ByteArray)[0]'h).toNat : Int) = 37 := fun _ => rfl
          have HG' := Aside0.mk hg'
          have HM' := Aside0.mk hM'
          have HS' := Aside0.mk hsz'
          have HD' := Aside0.mk hmd'
          clear hg' hM' hsz' hmd'
          go_wp2
          refine still_tail 6 hmix (by kernel_rfl) ?_
          simp only [List.take_succ_cons, List.take_zero, List.drop_succ_cons, List.drop_zero]
          repeat still_step
          try refine wpStill_nil ?_
          go_wp2
          refine ⟨⟨1, _, .inr (.inl ⟨rfl, rfl⟩), set_at_ _ _ _ M' _ (by exact HG'.out), (HM'.out.put 37 (by omega) 1).congr (fun x _ => st_succ 0 37 rfl x), (size_setCell _ _ _).trans HS'.out, (Mod.setCell (Mod.drew HD'.out) ⟨w.heap.size, 43, none⟩ _ (.inr (Nat.le_refl _)))⟩, by simp [intOf]⟩
        · have d0 := cell_of wr w.heap.size 56 M' hg' (hM'.map 50 (by omega))
          have d1 := fz_of wr w.heap.size 56 M' hg'
          have e0 : ∀ h, (((⟨#[37, 50, 101]⟩ : ByteArray)[1]'h).toNat : Int) = 50 := fun _ => rfl
          have HG' := Aside0.mk hg'
          have HM' := Aside0.mk hM'
          have HS' := Aside0.mk hsz'
          have HD' := Aside0.mk hmd'
          clear hg' hM' hsz' hmd'
          go_wp2
          refine still_tail 6 hmix (by kernel_rfl) ?_
          simp only [List.take_succ_cons, List.take_zero, List.drop_succ_cons, List.drop_zero]
          repeat still_step
          try refine wpStill_nil ?_
          go_wp2
          refine ⟨⟨2, _, .inr (.inr (.inl ⟨rfl, rfl⟩)), set_at_ _ _ _ M' _ (by exact HG'.out), (HM'.out.put 50 (by omega) 1).congr (fun x _ => st_succ 1 50 rfl x), (size_setCell _ _ _).trans HS'.out, (Mod.setCell (Mod.drew HD'.out) ⟨w.heap.size, 56, none⟩ _ (.inr (Nat.le_refl _)))⟩, by simp [intOf]⟩
        · have d0 := cell_of wr w.heap.size 107 M' hg' (hM'.map 101 (by omega))
          have d1 := fz_of wr w.heap.size 107 M' hg'
          have e0 : ∀ h, (((⟨#[37, 50, 101]⟩ : ByteArray)[2]'h).toNat : Int) = 101 := fun _ => rfl
          have HG' := Aside0.mk hg'
          have HM' := Aside0.mk hM'
          have HS' := Aside0.mk hsz'
          have HD' := Aside0.mk hmd'
          clear hg' hM' hsz' hmd'
          go_wp2
          refine still_tail 6 hmix (by kernel_rfl) ?_
          simp only [List.take_succ_cons, List.take_zero, List.drop_succ_cons, List.drop_zero]
          repeat still_step
          try refine wpStill_nil ?_
          go_wp2
          refine ⟨⟨3, _, .inr (.inr (.inr ⟨rfl, rfl⟩)), set_at_ _ _ _ M' _ (by exact HG'.out), (HM'.out.put 101 (by omega) 1).congr (fun x _ => st_succ 2 101 rfl x), (size_setCell _ _ _).trans HS'.out, (Mod.setCell (Mod.drew HD'.out) ⟨w.heap.size, 107, none⟩ _ (.inr (Nat.le_refl _)))⟩, by simp [intOf]⟩
        · go_wp2
          exact ⟨⟨1, M', .inr (.inl ⟨rfl, rfl⟩), hg', hM', hsz', hmd'⟩, by simp [intOf]⟩
    · go_wp2
      go_loopw [6] (fun v6 wq => ∃ (j : Nat) (M : Array Value), ((j = 0 ∧ v6 = .int .i64 0) ∨ (j = 1 ∧ v6 = .int .i64 1) ∨ (j = 2 ∧ v6 = .int .i64 2) ∨ (j = 3 ∧ v6 = .int .i64 3)) ∧ wq.heap[w.heap.size]? = some (.cells M 100 (0, 0)) ∧ GM M 0 (.slice none 0 0) (st (3 + j)) ∧ wq.heap.size = w.heap.size + 1 ∧ Mod w wq (fun _ => False)) (fun v _ => 4 - (intOf v).toNat)
      case atStart => exact ⟨0, M, .inl ⟨rfl, rfl⟩, HG.out, HM.out, HS.out, HD.out⟩
      case round =>
        obtain ⟨j, M', hj, hg', hM', hsz', hmd'⟩ := hrel
        rcases hj with ⟨rfl, rfl⟩ | ⟨rfl, rfl⟩ | ⟨rfl, rfl⟩ | ⟨rfl, rfl⟩
        · have d0 := cell_of wr w.heap.size 43 M' hg' (hM'.map 37 (by omega))
          have d1 := fz_of wr w.heap.size 43 M' hg'
          have e0 : ∀ h, (((⟨#[37, 50, 69]⟩ : ByteArray)[0]'h).toNat : Int) = 37 := fun _ => rfl
          have HG' := Aside0.mk hg'
          have HM' := Aside0.mk hM'
          have HS' := Aside0.mk hsz'
          have HD' := Aside0.mk hmd'
          clear hg' hM' hsz' hmd'
          go_wp2
          refine still_tail 6 hmix (by kernel_rfl) ?_
          simp only [List.take_succ_cons, List.take_zero, List.drop_succ_cons, List.drop_zero]
          repeat still_step
          try refine wpStill_nil ?_
          go_wp2
          refine ⟨⟨1, _, .inr (.inl ⟨rfl, rfl⟩), set_at_ _ _ _ M' _ (by exact HG'.out), (HM'.out.put 37 (by omega) 1).congr (fun x _ => st_succ 3 37 rfl x), (size_setCell _ _ _).trans HS'.out, (Mod.setCell (Mod.drew HD'.out) ⟨w.heap.size, 43, none⟩ _ (.inr (Nat.le_refl _)))⟩, by simp [intOf]⟩
        · have d0 := cell_of wr w.heap.size 56 M' hg' (hM'.map 50 (by omega))
          have d1 := fz_of wr w.heap.size 56 M' hg'
          have e0 : ∀ h, (((⟨#[37, 50, 69]⟩ : ByteArray)[1]'h).toNat : Int) = 50 := fun _ => rfl
          have HG' := Aside0.mk hg'
          have HM' := Aside0.mk hM'
          have HS' := Aside0.mk hsz'
          have HD' := Aside0.mk hmd'
          clear hg' hM' hsz' hmd'
          go_wp2
          refine still_tail 6 hmix (by kernel_rfl) ?_
          simp only [List.take_succ_cons, List.take_zero, List.drop_succ_cons, List.drop_zero]
          repeat still_step
          try refine wpStill_nil ?_
          go_wp2
          refine ⟨⟨2, _, .inr (.inr (.inl ⟨rfl, rfl⟩)), set_at_ _ _ _ M' _ (by exact HG'.out), (HM'.out.put 50 (by omega) 1).congr (fun x _ => st_succ 4 50 rfl x), (size_setCell _ _ _).trans HS'.out, (Mod.setCell (Mod.drew HD'.out) ⟨w.heap.size, 56, none⟩ _ (.inr (Nat.le_refl _)))⟩, by simp [intOf]⟩
        · have d0 := cell_of wr w.heap.size 75 M' hg' (hM'.map 69 (by omega))
          have d1 := fz_of wr w.heap.size 75 M' hg'
          have e0 : ∀ h, (((⟨#[37, 50, 69]⟩ : ByteArray)[2]'h).toNat : Int) = 69 := fun _ => rfl
          have HG' := Aside0.mk hg'
          have HM' := Aside0.mk hM'
          have HS' := Aside0.mk hsz'
          have HD' := Aside0.mk hmd'
          clear hg' hM' hsz' hmd'
          go_wp2
          refine still_tail 6 hmix (by kernel_rfl) ?_
          simp only [List.take_succ_cons, List.take_zero, List.drop_succ_cons, List.drop_zero]
          repeat still_step
          try refine wpStill_nil ?_
          go_wp2
          refine ⟨⟨3, _, .inr (.inr (.inr ⟨rfl, rfl⟩)), set_at_ _ _ _ M' _ (by exact HG'.out), (HM'.out.put 69 (by omega) 1).congr (fun x _ => st_succ 5 69 rfl x), (size_setCell _ _ _).trans HS'.out, (Mod.setCell (Mod.drew HD'.out) ⟨w.heap.size, 75, none⟩ _ (.inr (Nat.le_refl _)))⟩, by simp [intOf]⟩
        · go_wp2
          exact ⟨⟨2, M', .inr (.inr ⟨rfl, rfl⟩), hg', hM', hsz', hmd'⟩, by simp [intOf]⟩
    · go_wp2
      have hrg := agL_range wr w.heap.size M 0 _ HG.out HM.out
      refine wp_load_mid 81 _ rfl w.heap.size 6 rfl agL _ hrg Try.underlying81 rfl (by rw [agL_size]; kernel_rfl) ?_
      go_wp2
      clear hrg s0 s2
      have hai : ∀ i, i < 256 → agL.toArray[i]? = some (.int .u8 (st 6 i)) := fun i h => by rw [List.getElem?_toArray]; exact agL_get i h
      have has : agL.toArray.size = 256 := by rw [List.size_toArray]; exact agL_size
      generalize agL.toArray = AG at *
      go_loopw [41] (fun v41 wr => ∃ (i : Nat) (M : Array Value), v41 = .int .i64 (i : Int) ∧ i ≤ 256 ∧ wr.heap[w.heap.size]? = some (.cells M 100 (0, 0)) ∧ GM M (cnt i) (.slice none 0 0) (st 6) ∧ wr.heap.size = w.heap.size + 1 ∧ Mod w wr (fun _ => False)) (fun v _ => 256 - (intOf v).toNat)
      case atStart => exact ⟨0, M, rfl, by omega, HG.out, HM.out, HS.out, HD.out⟩
      case round =>
        obtain ⟨i, M', rfl, hi, hg', hM', hsz', hmd'⟩ := hrel
        have HG' := Aside0.mk hg'
        have HM' := Aside0.mk hM'
        have HS' := Aside0.mk hsz'
        have HD' := Aside0.mk hmd'
        by_cases hlt : i < 256
        · have hix := idx_law AG i (st 6 i) hlt (hai i hlt)
          have d0 := cell_of wr w.heap.size 5 M' hg' hM'.m5
          have d1 := fz_of wr w.heap.size 5 M' hg'
          have b1 : decide ((i : Int) < 256) = true := decide_eq_true (by omega)
          have b2 : decide (i < 256) = true := decide_eq_true hlt
          have hcs := Aside0.mk (cnt_succ i)
          have hcr := cnt_range i
          have hs1 := st6_cases i
          have hw1 : wrap64 (st 6 i) = st 6 i := by unfold wrap64; omega
          have hw2 : wrap64 (cnt i + st 6 i) = cnt i + st 6 i := by unfold wrap64; omega
          clear hg' hM' hsz' hmd' hai
          generalize st 6 i = s at *
          go_wp2
          refine ⟨⟨i + 1, _, by simp, by omega, set_at_ _ _ _ M' _ (by exact HG'.out), by rw [hcs.out]; exact HM'.out.putSize _, (size_setCell _ _ _).trans HS'.out, Mod.setCell HD'.out ⟨w.heap.size, 5, none⟩ _ (.inr (Nat.le_refl _))⟩, by simp [intOf]; omega⟩
        · have b1 : decide ((i : Int) < 256) = false := decide_eq_false (by omega)
          have b2 : decide (i < 256) = false := decide_eq_false hlt
          obtain rfl : i = 256 := by omega
          have hrg := agL_range wr w.heap.size M' _ _ hg' hM'
          clear hg' hM' hsz' hmd' hai has
          go_wp2
          refine wp_load_mid 81 _ rfl w.heap.size 6 rfl agL _ hrg Try.underlying81 rfl (by rw [agL_size]; kernel_rfl) ?_
          go_wp2
          clear hrg
          have hai : ∀ i, i < 256 → agL.toArray[i]? = some (.int .u8 (st 6 i)) := fun i h => by rw [List.getElem?_toArray]; exact agL_get i h
          generalize agL.toArray = AH at *
          go_loopw [58, 9] (fun v58 v9 wr => ∃ (i : Nat) (M : Array Value), v58 = .int .i64 (i : Int) ∧ v9 = .int .u8 (cnt i) ∧ i ≤ 256 ∧ wr.heap[w.heap.size]? = some (.cells M 100 (0, 0)) ∧ GM M 4 (.slice none 0 0) (md i) ∧ wr.heap.size = w.heap.size + 1 ∧ Mod w wr (fun _ => False)) (fun v _ _ => 256 - (intOf v).toNat)
          case atStart => exact ⟨0, M', rfl, rfl, by omega, HG'.out, HM'.out.congr (fun x _ => md_zero x), HS'.out, HD'.out⟩
          case round =>
            obtain ⟨i, M2, rfl, rfl, hi, hg', hM', hsz', hmd'⟩ := hrel
            clear HG' HM' HS' HD'
            have HG' := Aside0.mk hg'
            have HM' := Aside0.mk hM'
            have HS' := Aside0.mk hsz'
            have HD' := Aside0.mk hmd'
            by_cases hlt : i < 256
            · have d0 := cell_of wr w.heap.size 5 M2 hg' hM'.m5
              have d2 := cell_of wr w.heap.size (6 + i) M2 hg' (hM'.map i hlt)
              have d1 := fz_of wr w.heap.size (6 + i) M2 hg'
              have b1 : decide ((i : Int) < 256) = true := decide_eq_true (by omega)
              have b2 : decide (i < 256) = true := decide_eq_true hlt
              have hcs := Aside0.mk (cnt_succ i)
              have hcr := cnt_range i
              clear hg' hM' hsz' hmd'
              rcases st6_cases i with hs | hs
              · have hix := idx_law AH i 0 hlt (by rw [← hs]; exact hai i hlt)
                have HS6 := Aside0.mk hs
                clear hs hai
                go_wp2
                refine still_tail 9 hmix (by kernel_rfl) ?_
                simp only [List.take_succ_cons, List.take_zero, List.drop_succ_cons, List.drop_zero]
                repeat still_step
                try refine wpStill_nil ?_
                go_wp2
                refine ⟨⟨i + 1, _, by simp, by rw [hcs.out, HS6.out, Int.add_zero], by omega, set_at_ _ _ _ M2 _ (by exact HG'.out), (HM'.out.put i hlt 4).congr (fun x _ => md_bare i x HS6.out), (size_setCell _ _ _).trans HS'.out, (Mod.setCell (Mod.drew HD'.out) ⟨w.heap.size, 6 + i, none⟩ _ (.inr (Nat.le_refl _)))⟩, by simp [intOf]; omega⟩
              · have hix := idx_law AH i 1 hlt (by rw [← hs]; exact hai i hlt)
                have HS6 := Aside0.mk hs
                clear hs hai
                have hmod : (cnt i + 1) % 256 = cnt i + 1 := by omega
                go_wp2
                refine ⟨⟨i + 1, _, by simp, by rw [hcs.out, HS6.out], by omega, set_at_ _ _ _ M2 _ (by exact HG'.out), (HM'.out.put i hlt (cnt i)).congr (fun x _ => md_mark i x HS6.out), (size_setCell _ _ _).trans HS'.out, Mod.setCell HD'.out ⟨w.heap.size, 6 + i, none⟩ _ (.inr (Nat.le_refl _))⟩, by simp [intOf]; omega⟩
            · have b1 : decide ((i : Int) < 256) = false := decide_eq_false (by omega)
              have b2 : decide (i < 256) = false := decide_eq_false hlt
              obtain rfl : i = 256 := by omega
              have HM'' := Aside0.mk (hM'.congr md_all)
              have d0 := cell_of wr w.heap.size 5 M2 hg' hM'.m5
              have d1 := fz_of wr w.heap.size 4 M2 hg'
              have d2 := cell_of wr w.heap.size 4 M2 hg' hM'.m4
              have hgl : w.heap.size < wr.heap.size := by omega
              clear hg' hM' hsz' hmd' hai
              have hmk : ∀ W : World, (Instr.makeSlice 96 (.int .i64 4) (.int .i64 4)).run Try.prog W = .ok (.slice (some ⟨W.heap.size, 0, none⟩) 4 4) (W.alloc (.cells (madeCells #[.pointer none] 4) 95)) := fun W => by
                have := print_make_of (P := Try.prog) 96 95 (.pointer none) 8 Try.underlying96 (by kernel_rfl) rfl (by omega) 4 (by omega) W
                exact this
              go_wp2
              have hT0 : (wr.setCell ⟨w.heap.size, 4, none⟩ (.slice (some ⟨wr.heap.size, 0, none⟩) 4 4)).heap.size = w.heap.size + 1 := (size_setCell _ _ _).trans HS'.out
              have hgs := set_at_ wr w.heap.size 4 M2 (.slice (some ⟨wr.heap.size, 0, none⟩) 4 4) HG'.out
              have hMd := Mod.setCell HD'.out ⟨w.heap.size, 4, none⟩ (.slice (some ⟨wr.heap.size, 0, none⟩) 4 4) (.inr (Nat.le_refl _))
              have hwr : wr.heap.size = w.heap.size + 1 := HS'.out
              have hGM := HM''.out.putTable (.slice (some ⟨w.heap.size + 1, 0, none⟩) 4 4)
              rw [hwr] at hgs hMd
              rw [made4]
              rw [hwr]
              rw [hwr] at hT0
              clear hgl d0 d1 d2 b1 b2 hi
              simp only [nat256]
              generalize (wr.setCell ⟨w.heap.size, 4, none⟩ (.slice (some ⟨w.heap.size + 1, 0, none⟩) 4 4)) = W0 at *
              go_loopw [12] (fun v12 wr => (v12 = .int .i64 0 ∧ wr.heap.size = w.heap.size + 2 ∧ (∃ M, wr.heap[w.heap.size]? = some (.cells M 100 (0, 0)) ∧ GM M 4 (.slice (some ⟨w.heap.size + 1, 0, none⟩) 4 4) fin_) ∧ wr.heap[w.heap.size + 1]? = some (.cells #[.pointer none, .pointer none, .pointer none, .pointer none] 95 (0, 0)) ∧ Mod w wr (fun _ => False)) ∨
                (v12 = .int .i64 2 ∧ (∃ M, wr.heap[w.heap.size]? = some (.cells M 100 (0, 0)) ∧ GM M 4 (.slice (some ⟨w.heap.size + 1, 0, none⟩) 4 4) fin_) ∧ (∃ n m, w.heap.size + 2 ≤ n ∧ w.heap.size + 2 ≤ m ∧ wr.heap[w.heap.size + 1]? = some (.cells #[.pointer (some ⟨n, 0, none⟩), .pointer none, .pointer none, .pointer none] 95 (0, 0)) ∧
                  Node wr n (⟨#[]⟩ : ByteArray) 0 (⟨#[50, 101]⟩ : ByteArray) (.pointer (some ⟨m, 0, none⟩)) (.slice none 0 0) ∧ Node wr m (⟨#[46]⟩ : ByteArray) 4 (⟨#[]⟩ : ByteArray) (.pointer none) (.slice none 0 0)) ∧ Mod w wr (fun _ => False)) ∨
                (v12 = .int .i64 4 ∧ GR wr w.heap.size w.heap.size ∧ Mod w wr (fun _ => False))) (fun v _ => 5 - (intOf v).toNat)
              case atStart =>
                refine .inl ⟨rfl, by rw [World.size_alloc, hT0], ⟨_, ?_, hGM⟩, one_new _ _ _ hT0, hMd.alloc _⟩
                rw [Below.heap_alloc _ _ _ (by omega)]
                exact hgs
              case round =>
                clear hgs hMd hGM hT0
                rcases hrel with ⟨rfl, hsz, ⟨M3, hg, hM⟩, hT, hmd⟩ | ⟨rfl, ⟨M3, hg, hM⟩, ⟨n, m, hn, hm, hT, hNn, hNm⟩, hmd⟩ | ⟨rfl, hGR, hmd⟩
                · have s0 := pw_cell_below (hmd.below (Nat.le_refl _) (fun _ h => h.elim)) H0.out
                  have s1 := pw_cell_below (hmd.below (Nat.le_refl _) (fun _ h => h.elim)) H1.out
                  have C2 := Aside0.mk (cell_of wr w.heap.size 2 M3 hg hM.m2)
                  have C4 := Aside0.mk (cell_of wr w.heap.size 4 M3 hg hM.m4)
                  have C43 := Aside0.mk (cell_of wr w.heap.size 43 M3 hg (hM.map 37 (by omega)))
                  have hgl : w.heap.size < wr.heap.size := by omega
                  have HT := Aside0.mk hT
                  have HG1 := Aside0.mk hg
                  have HM1 := Aside0.mk hM
                  have HD1 := Aside0.mk hmd
                  clear hg hM hT hmd
                  have hTG : w.heap.size ≠ w.heap.size + 1 := by omega
                  have HSZ := Aside0.mk hsz
                  go_wp2
                  refine still_tail 17 hmix (by kernel_rfl) ?_
                  simp only [List.take_succ_cons, List.take_zero, List.drop_succ_cons, List.drop_zero]
                  repeat still_step
                  try refine wpStill_nil ?_
                  go_wp2_with (go_at_call 59; refine (root_one w.heap.size (w.heap.size + 1) (⟨#[46]⟩ : ByteArray) 4 wr.drew C2.out C4.out C43.out HT.out hTG hgl).mono ?_; rintro e w1 ⟨rfl, n, m, hn, hm, hT, hNn, hNm, hM1⟩)
                  have hb : wr.heap.size ≤ n := hn
                  have hsz := HSZ.out
                  have hb' : wr.heap.size ≤ m := hm
                  have HM2 := Aside0.mk (Mod.trans (Mod.drew HD1.out) hM1 (T := fun i => i = w.heap.size + 1) (S := fun _ => False) (fun i hi e => by omega))
                  have HG2 := Aside0.mk ((hM1.block w.heap.size hgl hTG).trans (by exact HG1.out))
                  exact ⟨.inr (.inl ⟨rfl, ⟨M3, HG2.out, HM1.out⟩, ⟨n, m, by omega, by omega, hT, hNn, hNm⟩, HM2.out⟩), by simp [intOf]⟩
                · have s2 := pw_cell_below (hmd.below (Nat.le_refl _) (fun _ h => h.elim)) H2.out
                  have s3 := pw_cell_below (hmd.below (Nat.le_refl _) (fun _ h => h.elim)) H3.out
                  have C2 := Aside0.mk (cell_of wr w.heap.size 2 M3 hg hM.m2)
                  have C4 := Aside0.mk (cell_of wr w.heap.size 4 M3 hg hM.m4)
                  have C5 := Aside0.mk (cell_of wr w.heap.size 5 M3 hg hM.m5)
                  have C43 := Aside0.mk (cell_of wr w.heap.size 43 M3 hg (hM.map 37 (by omega)))
                  have C107 := Aside0.mk (cell_of wr w.heap.size 107 M3 hg (hM.map 101 (by omega)))
                  have C75 := Aside0.mk (cell_of wr w.heap.size 75 M3 hg (hM.map 69 (by omega)))
                  have hgl : w.heap.size < wr.heap.size := by have := hNn.lt; omega
                  have hgn : n ≠ w.heap.size := by omega
                  have HT := Aside0.mk hT
                  have HG1 := Aside0.mk hg
                  have HM1 := Aside0.mk hM
                  have HD1 := Aside0.mk hmd
                  have HNn := Aside0.mk hNn
                  have HNm := Aside0.mk hNm
                  clear hg hM hT hmd hNn hNm
                  go_wp2
                  refine still_tail 17 hmix (by kernel_rfl) ?_
                  simp only [List.take_succ_cons, List.take_zero, List.drop_succ_cons, List.drop_zero]
                  repeat still_step
                  try refine wpStill_nil ?_
                  go_wp2_with (go_at_call 59; refine (root_two w.heap.size (w.heap.size + 1) n m (⟨#[46]⟩ : ByteArray) 2 wr.drew C2.out C4.out C43.out C5.out C107.out C75.out HT.out HNn.out hgn hgl).mono ?_; rintro e w1 ⟨rfl, n3, k, T3, hn3, hk, hT3, hN1, hN3, hNk, hrow, hM1⟩)
                  have hb : wr.heap.size ≤ n3 := hn3
                  have hb1 : wr.heap.size ≤ k := hk
                  have hb2 : wr.heap.size ≤ T3 := hT3
                  have HM2 := Aside0.mk (Mod.trans (Mod.drew HD1.out) hM1 (T := fun i => i = n) (S := fun _ => False) (fun i hi e => by omega))
                  have HG2 := Aside0.mk ((hM1.block w.heap.size hgl (Ne.symm hgn)).trans (by exact HG1.out))
                  have hTl : w.heap.size + 1 < wr.heap.size := (Array.getElem?_eq_some_iff.1 HT.out).1
                  have HT2 := Aside0.mk ((hM1.block (w.heap.size + 1) hTl (by omega)).trans (by exact HT.out))
                  have hmn : n ≠ m := HNn.out.ne HNm.out (by decide)
                  have HNm' : Node wr.drew m (⟨#[46]⟩ : ByteArray) 4 (⟨#[]⟩ : ByteArray) (.pointer none) (.slice none 0 0) := HNm.out
                  have HN2 := Aside0.mk (HNm'.mod hM1 (Ne.symm hmn))
                  exact ⟨.inr (.inr ⟨rfl, ⟨M3, w.heap.size + 1, n, n3, T3, k, m, ⟨Nat.le_refl _, by omega, by omega, by omega, by omega, by omega, by omega⟩, HG2.out, HM1.out, HT2.out, hN1, hN3, hrow, hNk, HN2.out⟩, HM2.out⟩), by simp [intOf]⟩
                · clear HG HM HS HD
                  go_wp2
                  refine bodyPost_ret (results_tmp rfl _ _ _) rfl ?_
                  exact ⟨w.heap.size, rfl, hGR, hmd.below (Nat.le_refl _) (fun _ h => h.elim)⟩
end Go.Proofs.Ytedkaedeahobjaa
