/- Three rows of zeros behind a row of three slices: the tasks of SchedPicks in memory. -/
import Derived.Test.YtglafngeeggeeaaPicked
namespace Go.Proofs.Ytglafngeeggeeaa
open Go.RowKit Go.Proofs.YtglafngeeggeeaaW.PrintWords Go.Proofs.Ytglafngeeggeeaa.PSch
set_option linter.unusedVariables false
set_option linter.unusedSimpArgs false
set_option linter.unnecessarySimpa false
theorem zeros_C (w : World) (g n : Nat) (hn : n < 16) (h : w.heap[g]? = some (.cells (madeCells #[.int .i64 0] n) 3 (0, 0))) : (Kd.int .i64).C w (some ⟨g, 0, none⟩) (List.replicate n (0 : Int)).length (List.replicate n 0) := by
  refine ⟨rfl, by simp; omega, fun _ => ⟨_, rfl, fun j p hj => ?_⟩⟩
  obtain ⟨hj1, rfl⟩ := List.getElem?_eq_some_iff.1 hj
  rw [List.length_replicate] at hj1
  refine ⟨[.int .i64 0], rfl, by simp; rfl, fun u v hu => ?_⟩
  have hu0 : u = 0 := by
    have := (List.getElem?_eq_some_iff.1 hu).1
    simp at this
    exact this
  subst hu0
  simp at hu
  subst hu
  rw [made_nums] at h
  have hc := cell_of_row w g j _ _ _ h
  rw [show (Kd.int .i64).sz = 1 from rfl, Nat.mul_one, Nat.add_zero, add_at, Nat.zero_add, hc]
  simp [nums, hj1]
theorem three_C (w : World) (ga gb gc na nb nc : Nat) (ha : na < 16) (hb : nb < 16) (hc : nc < 16) (hga : w.heap[ga]? = some (.cells (madeCells #[.int .i64 0] na) 3 (0, 0))) (hgb : w.heap[gb]? = some (.cells (madeCells #[.int .i64 0] nb) 3 (0, 0))) (hgc : w.heap[gc]? = some (.cells (madeCells #[.int .i64 0] nc) 3 (0, 0))) :
    KT.C (w.alloc (.cells #[.slice (some ⟨ga, 0, none⟩) na na, .slice (some ⟨gb, 0, none⟩) nb nb, .slice (some ⟨gc, 0, none⟩) nc nc] 23)) (some ⟨w.heap.size, 0, none⟩) 3 (three na nb nc) := by
  have hC : ∀ (g n : Nat), n < 16 → w.heap[g]? = some (.cells (madeCells #[.int .i64 0] n) 3 (0, 0)) → (Kd.int .i64).C (w.alloc (.cells #[.slice (some ⟨ga, 0, none⟩) na na, .slice (some ⟨gb, 0, none⟩) nb nb, .slice (some ⟨gc, 0, none⟩) nc nc] 23)) (some ⟨g, 0, none⟩) (List.replicate n (0 : Int)).length (List.replicate n 0) :=
    fun g n hn hg => Kd.C_alloc (zeros_C w g n hn hg) _
  have hrow := blk_new w (.cells #[.slice (some ⟨ga, 0, none⟩) na na, .slice (some ⟨gb, 0, none⟩) nb nb, .slice (some ⟨gc, 0, none⟩) nc nc] 23)
  refine ⟨rfl, by decide, fun _ => ⟨_, rfl, fun j p hj => ?_⟩⟩
  have hsz : (KT).sz = 1 := rfl
  have one : ∀ (v : Value), (∀ u x, ([v] : List Value)[u]? = some x → (w.alloc (.cells #[.slice (some ⟨ga, 0, none⟩) na na, .slice (some ⟨gb, 0, none⟩) nb nb, .slice (some ⟨gc, 0, none⟩) nc nc] 23)).cell? ((⟨w.heap.size, 0, none⟩ : Addr).add (j * 1 + u)) = some x) ↔ (w.alloc (.cells #[.slice (some ⟨ga, 0, none⟩) na na, .slice (some ⟨gb, 0, none⟩) nb nb, .slice (some ⟨gc, 0, none⟩) nc nc] 23)).cell? ((⟨w.heap.size, 0, none⟩ : Addr).add j) = some v := by
    intro v
    constructor
    · intro h; simpa using h 0 v rfl
    · intro h u x hu
      have hu0 : u = 0 := by
        have := (List.getElem?_eq_some_iff.1 hu).1
        simp at this
        exact this
      subst hu0
      simp at hu
      subst hu
      simpa using h
  obtain ⟨hj1, rfl⟩ := List.getElem?_eq_some_iff.1 hj
  have hj3 : j < 3 := hj1
  have hcase : j = 0 ∨ j = 1 ∨ j = 2 := by omega
  rcases hcase with rfl | rfl | rfl
  · exact ⟨[.slice (some ⟨ga, 0, none⟩) na na], rfl, ⟨_, na, by simp [three], by simp [three], hC ga na ha hga⟩, (one _).2 (by rw [add_at]; have := cell_of_row _ _ 0 _ _ _ hrow; simpa using this)⟩
  · exact ⟨[.slice (some ⟨gb, 0, none⟩) nb nb], rfl, ⟨_, nb, by simp [three], by simp [three], hC gb nb hb hgb⟩, (one _).2 (by rw [add_at]; have := cell_of_row _ _ 1 _ _ _ hrow; simpa using this)⟩
  · exact ⟨[.slice (some ⟨gc, 0, none⟩) nc nc], rfl, ⟨_, nc, by simp [three], by simp [three], hC gc nc hc hgc⟩, (one _).2 (by rw [add_at]; have := cell_of_row _ _ 2 _ _ _ hrow; simpa using this)⟩
end Go.Proofs.Ytglafngeeggeeaa
