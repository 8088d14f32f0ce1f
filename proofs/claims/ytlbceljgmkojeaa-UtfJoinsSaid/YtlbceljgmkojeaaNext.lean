/- The contract of utf.next (and of utf.first and of next's closure) at every string that is not empty: what 'utf_next.f' says; nothing that lay before is changed. By hand. -/
import Derived.Test.YtlbceljgmkojeaaProg
import Derived.Test.YtlbceljgmkojeaaWWords
import Derived.Test.YtlbceljgmkojeaaWLast
import Derived.Test.YtlbceljgmkojeaaWMore
import Derived.RegionTactic
import Derived.ChangeAlike
import Derived.WalkKit
import Derived.Deep.QuietTactic
import Derived.BigQuiet
import Derived.Lib.Hide
import Derived.Deep.RegionWith
namespace Go.Proofs.Ytlbceljgmkojeaa
open Go.RowKit Go.Proofs.YtlbceljgmkojeaaW.PrintWords
set_option linter.unusedVariables false
set_option linter.unusedSimpArgs false

set_option maxHeartbeats 400000 in
theorem in_far (s : ByteArray) (lo hi i : Int) (gs gb : Nat) (w : World) (hs : w.cell? ⟨gs, 0, none⟩ = some (.string s)) (h0 : 0 ≤ i) (h1 : decide (i < (s.size : Int)) = false) :
    Calls Try.prog 24 #[.int .i64 i, .pointer (some ⟨gs, 0, none⟩), .pointer (some ⟨gb, 0, none⟩)] w fun e w' => e = .returned (.bool false) ∧ ∃ n, w' = w.drewN n := by
  go_enter Try.func24, Try.ntmps24
  go_wp2
  go_quiet (fail)
  go_wp2
  go_ret
  exact ⟨rfl, _, rfl⟩
set_option maxHeartbeats 400000 in
theorem in_low (s : ByteArray) (lo hi i : Int) (gs gb : Nat) (w : World) (hs : w.cell? ⟨gs, 0, none⟩ = some (.string s)) (hl : w.cell? ⟨gb, 0, none⟩ = some (.int .u8 lo)) (h0 : 0 ≤ i) (h1 : decide (i < (s.size : Int)) = true) (h2 : decide (lo ≤ bt s i) = false) :
    Calls Try.prog 24 #[.int .i64 i, .pointer (some ⟨gs, 0, none⟩), .pointer (some ⟨gb, 0, none⟩)] w fun e w' => e = .returned (.bool false) ∧ ∃ n, w' = w.drewN n := by
  have p5 : 0 ≤ i := h0
  have q5 : i < (s.size : Int) := of_decide_eq_true h1
  have hx5 := bt_at s i
  replace p5 := eq_true p5
  replace q5 := eq_true q5
  go_enter Try.func24, Try.ntmps24
  go_wp2
  go_quiet (fail)
  go_wp2
  go_ret
  exact ⟨rfl, _, rfl⟩
set_option maxHeartbeats 400000 in
theorem in_high (s : ByteArray) (lo hi i : Int) (gs gb : Nat) (w : World) (hs : w.cell? ⟨gs, 0, none⟩ = some (.string s)) (hl : w.cell? ⟨gb, 0, none⟩ = some (.int .u8 lo)) (hh : w.cell? ⟨gb, 1, none⟩ = some (.int .u8 hi)) (h0 : 0 ≤ i) (h1 : decide (i < (s.size : Int)) = true) (h2 : decide (lo ≤ bt s i) = true) :
    Calls Try.prog 24 #[.int .i64 i, .pointer (some ⟨gs, 0, none⟩), .pointer (some ⟨gb, 0, none⟩)] w fun e w' => e = .returned (.bool (decide (bt s i ≤ hi))) ∧ ∃ n, w' = w.drewN n := by
  have p5 : 0 ≤ i := h0
  have q5 : i < (s.size : Int) := of_decide_eq_true h1
  have hx5 := bt_at s i
  replace p5 := eq_true p5
  replace q5 := eq_true q5
  go_enter Try.func24, Try.ntmps24
  go_wp2
  go_quiet (fail)
  go_wp2
  go_ret
  exact ⟨rfl, _, rfl⟩
set_option maxHeartbeats 400000 in
theorem first_a (c : Int) (h1 : 128 ≤ c) (h2 : c ≤ 193) (n1 : ((c : Int) == 224) = false) (n2 : ((c : Int) == 237) = false) (n3 : ((c : Int) == 240) = false) (n4 : ((c : Int) == 244) = false) (w : World) :
    Calls Try.prog 23 #[.int .u8 c] w fun e w' => e = .returned (.tuple #[.int .i64 (-1), .int .i32 (65533), .agg #[.int .u8 128, .int .u8 191]]) ∧ Below w.heap.size w w' := by
  go_enter Try.func23, Try.ntmps23
  go_wp2
  go_region
  all_goals go_wp2
  all_goals exact bodyPost_ret (v := .tuple #[.int .i64 (-1), .int .i32 (65533), .agg #[.int .u8 128, .int .u8 191]]) (by simp [results, Try.results23, go_sem]) rfl ⟨rfl, (((Below.refl _ _).alloc (Nat.le_refl _) _).alloc (by simp) _).drew⟩
set_option maxHeartbeats 400000 in
theorem first_b (c : Int) (h1 : 194 ≤ c) (h2 : c ≤ 223) (w : World) :
    Calls Try.prog 23 #[.int .u8 c] w fun e w' => e = .returned (.tuple #[.int .i64 1, .int .i32 (c % 32), .agg #[.int .u8 128, .int .u8 191]]) ∧ Below w.heap.size w w' := by
  go_enter Try.func23, Try.ntmps23
  go_wp2
  go_region
  all_goals go_wp2
  all_goals exact bodyPost_ret (v := .tuple #[.int .i64 1, .int .i32 (c % 32), .agg #[.int .u8 128, .int .u8 191]]) (by simp [results, Try.results23, go_sem]) rfl ⟨rfl, (((Below.refl _ _).alloc (Nat.le_refl _) _).alloc (by simp) _).drew⟩
set_option maxHeartbeats 400000 in
theorem first_c (w : World) :
    Calls Try.prog 23 #[.int .u8 224] w fun e w' => e = .returned (.tuple #[.int .i64 2, .int .i32 (0), .agg #[.int .u8 160, .int .u8 191]]) ∧ Below w.heap.size w w' := by
  go_enter Try.func23, Try.ntmps23
  go_wp2
  all_goals exact bodyPost_ret (v := .tuple #[.int .i64 2, .int .i32 (0), .agg #[.int .u8 160, .int .u8 191]]) (by simp [results, Try.results23, go_sem]) rfl ⟨rfl, (((Below.refl _ _).alloc (Nat.le_refl _) _).alloc (by simp) _)⟩
set_option maxHeartbeats 400000 in
theorem first_d (w : World) :
    Calls Try.prog 23 #[.int .u8 237] w fun e w' => e = .returned (.tuple #[.int .i64 2, .int .i32 (13), .agg #[.int .u8 128, .int .u8 159]]) ∧ Below w.heap.size w w' := by
  go_enter Try.func23, Try.ntmps23
  go_wp2
  all_goals exact bodyPost_ret (v := .tuple #[.int .i64 2, .int .i32 (13), .agg #[.int .u8 128, .int .u8 159]]) (by simp [results, Try.results23, go_sem]) rfl ⟨rfl, (((Below.refl _ _).alloc (Nat.le_refl _) _).alloc (by simp) _)⟩
set_option maxHeartbeats 400000 in
theorem first_e (c : Int) (h1 : 225 ≤ c) (h2 : c ≤ 239) (n1 : ((c : Int) == 224) = false) (n2 : ((c : Int) == 237) = false) (w : World) :
    Calls Try.prog 23 #[.int .u8 c] w fun e w' => e = .returned (.tuple #[.int .i64 2, .int .i32 (c % 16), .agg #[.int .u8 128, .int .u8 191]]) ∧ Below w.heap.size w w' := by
  go_enter Try.func23, Try.ntmps23
  go_wp2
  go_region
  all_goals go_wp2
  all_goals exact bodyPost_ret (v := .tuple #[.int .i64 2, .int .i32 (c % 16), .agg #[.int .u8 128, .int .u8 191]]) (by simp [results, Try.results23, go_sem]) rfl ⟨rfl, (((Below.refl _ _).alloc (Nat.le_refl _) _).alloc (by simp) _).drew⟩
set_option maxHeartbeats 400000 in
theorem first_f (w : World) :
    Calls Try.prog 23 #[.int .u8 240] w fun e w' => e = .returned (.tuple #[.int .i64 3, .int .i32 (0), .agg #[.int .u8 144, .int .u8 191]]) ∧ Below w.heap.size w w' := by
  go_enter Try.func23, Try.ntmps23
  go_wp2
  all_goals exact bodyPost_ret (v := .tuple #[.int .i64 3, .int .i32 (0), .agg #[.int .u8 144, .int .u8 191]]) (by simp [results, Try.results23, go_sem]) rfl ⟨rfl, (((Below.refl _ _).alloc (Nat.le_refl _) _).alloc (by simp) _)⟩
set_option maxHeartbeats 400000 in
theorem first_g (c : Int) (h1 : 241 ≤ c) (h2 : c ≤ 243) (n1 : ((c : Int) == 224) = false) (n2 : ((c : Int) == 237) = false) (n3 : ((c : Int) == 240) = false) (w : World) :
    Calls Try.prog 23 #[.int .u8 c] w fun e w' => e = .returned (.tuple #[.int .i64 3, .int .i32 (c % 8), .agg #[.int .u8 128, .int .u8 191]]) ∧ Below w.heap.size w w' := by
  go_enter Try.func23, Try.ntmps23
  go_wp2
  go_region
  all_goals go_wp2
  all_goals exact bodyPost_ret (v := .tuple #[.int .i64 3, .int .i32 (c % 8), .agg #[.int .u8 128, .int .u8 191]]) (by simp [results, Try.results23, go_sem]) rfl ⟨rfl, (((Below.refl _ _).alloc (Nat.le_refl _) _).alloc (by simp) _).drew⟩
set_option maxHeartbeats 400000 in
theorem first_h (w : World) :
    Calls Try.prog 23 #[.int .u8 244] w fun e w' => e = .returned (.tuple #[.int .i64 3, .int .i32 (4), .agg #[.int .u8 128, .int .u8 143]]) ∧ Below w.heap.size w w' := by
  go_enter Try.func23, Try.ntmps23
  go_wp2
  all_goals exact bodyPost_ret (v := .tuple #[.int .i64 3, .int .i32 (4), .agg #[.int .u8 128, .int .u8 143]]) (by simp [results, Try.results23, go_sem]) rfl ⟨rfl, (((Below.refl _ _).alloc (Nat.le_refl _) _).alloc (by simp) _)⟩
set_option maxHeartbeats 400000 in
theorem first_i (c : Int) (h1 : 245 ≤ c) (n1 : ((c : Int) == 224) = false) (n2 : ((c : Int) == 237) = false) (n3 : ((c : Int) == 240) = false) (n4 : ((c : Int) == 244) = false) (w : World) :
    Calls Try.prog 23 #[.int .u8 c] w fun e w' => e = .returned (.tuple #[.int .i64 (-1), .int .i32 (65533), .agg #[.int .u8 128, .int .u8 191]]) ∧ Below w.heap.size w w' := by
  go_enter Try.func23, Try.ntmps23
  go_wp2
  go_region
  all_goals go_wp2
  all_goals exact bodyPost_ret (v := .tuple #[.int .i64 (-1), .int .i32 (65533), .agg #[.int .u8 128, .int .u8 191]]) (by simp [results, Try.results23, go_sem]) rfl ⟨rfl, (((Below.refl _ _).alloc (Nat.le_refl _) _).alloc (by simp) _).drew⟩

/-- What a first byte says: how many follow, its bits, the bounds of the second one. -/
def first4 (c : Int) : Int × Int × Int × Int :=
  if c ≤ 193 then (-1, 65533, 128, 191)
  else if c ≤ 223 then (1, c % 32, 128, 191)
  else if c = 224 then (2, 0, 160, 191)
  else if c = 237 then (2, 13, 128, 159)
  else if c ≤ 239 then (2, c % 16, 128, 191)
  else if c = 240 then (3, 0, 144, 191)
  else if c ≤ 243 then (3, c % 8, 128, 191)
  else if c = 244 then (3, 4, 128, 143)
  else (-1, 65533, 128, 191)
theorem first_any (c : Int) (w : World) (h : 128 ≤ c) :
    Calls Try.prog 23 #[.int .u8 c] w fun e w' => e = .returned (.tuple #[.int .i64 (first4 c).1, .int .i32 (first4 c).2.1, .agg #[.int .u8 (first4 c).2.2.1, .int .u8 (first4 c).2.2.2]]) ∧ Below w.heap.size w w' := by
  unfold first4
  by_cases a : c ≤ 193
  · rw [if_pos a]; exact first_a c h a (by simp; omega) (by simp; omega) (by simp; omega) (by simp; omega) w
  rw [if_neg a]
  by_cases b : c ≤ 223
  · rw [if_pos b]; exact first_b c (by omega) b w
  rw [if_neg b]
  by_cases c1 : c = 224
  · rw [if_pos c1]; subst c1; exact first_c w
  rw [if_neg c1]
  by_cases d : c = 237
  · rw [if_pos d]; subst d; exact first_d w
  rw [if_neg d]
  by_cases e : c ≤ 239
  · rw [if_pos e]; exact first_e c (by omega) e (by simpa using c1) (by simpa using d) w
  rw [if_neg e]
  by_cases f : c = 240
  · rw [if_pos f]; subst f; exact first_f w
  rw [if_neg f]
  by_cases g : c ≤ 243
  · rw [if_pos g]; exact first_g c (by omega) g (by simpa using c1) (by simpa using d) (by simpa using f) w
  rw [if_neg g]
  by_cases k : c = 244
  · rw [if_pos k]; subst k; exact first_h w
  rw [if_neg k]
  exact first_i c (by omega) (by simpa using c1) (by simpa using d) (by simpa using f) (by simpa using k) w

theorem first4_m (c : Int) : -1 ≤ (first4 c).1 ∧ (first4 c).1 ≤ 3 := by
  unfold first4
  repeat' (split <;> try omega)
/-- What follows a first byte: 'f' more may come, the next at place i, from lo to hi. -/
def goOn (s : ByteArray) (m : Int) : Nat → Int → Int → Int → Int → Int × Int
  | 0, _, c, _, _ => (c, mx m 0 + 1)
  | f + 1, i, c, lo, hi =>
    if i < (s.size : Int) ∧ lo ≤ bt s i ∧ bt s i ≤ hi then goOn s m f (i + 1) (bits .or .i32 (wrap32 (c * 64)) (bt s i % 64)) 128 191 else (65533, i)
/-- The first code point of bytes, and how many it has. -/
def utf_next.f (a0 : ByteArray) : Option (Int × Int) :=
  if 0 < (a0.size : Int) then
    some (if bt a0 0 < 128 then (bt a0 0, 1) else goOn a0 (first4 (bt a0 0)).1 (first4 (bt a0 0)).1.toNat 1 (first4 (bt a0 0)).2.1 (first4 (bt a0 0)).2.2.1 (first4 (bt a0 0)).2.2.2)
  else none
theorem in_any (s : ByteArray) (lo hi i : Int) (gs gb : Nat) (w : World) (hs : w.cell? ⟨gs, 0, none⟩ = some (.string s)) (hl : w.cell? ⟨gb, 0, none⟩ = some (.int .u8 lo)) (hh : w.cell? ⟨gb, 1, none⟩ = some (.int .u8 hi)) (h0 : 0 ≤ i) (b : Bool)
    (hb : b = decide (i < (s.size : Int) ∧ lo ≤ bt s i ∧ bt s i ≤ hi)) :
    Calls Try.prog 24 #[.int .i64 i, .pointer (some ⟨gs, 0, none⟩), .pointer (some ⟨gb, 0, none⟩)] w fun e w' => e = .returned (.bool b) ∧ ∃ n, w' = w.drewN n := by
  subst hb
  by_cases h1 : i < (s.size : Int)
  · by_cases h2 : lo ≤ bt s i
    · have e : decide (i < (s.size : Int) ∧ lo ≤ bt s i ∧ bt s i ≤ hi) = decide (bt s i ≤ hi) := by simp [h1, h2]
      rw [e]; exact in_high s lo hi i gs gb w hs hl hh h0 (decide_eq_true h1) (decide_eq_true h2)
    · have e : decide (i < (s.size : Int) ∧ lo ≤ bt s i ∧ bt s i ≤ hi) = false := by simp [h1, h2]
      rw [e]; exact in_low s lo hi i gs gb w hs hl h0 (decide_eq_true h1) (decide_eq_false h2)
  · have e : decide (i < (s.size : Int) ∧ lo ≤ bt s i ∧ bt s i ≤ hi) = false := by simp [h1]
    rw [e]; exact in_far s lo hi i gs gb w hs h0 (decide_eq_false h1)

set_option maxHeartbeats 400000 in
theorem next_more (s : ByteArray) (m c lo hi : Int) (r : Int × Int) (w : World) (hp : 0 < s.size) (hb : decide (bt s 0 < 128) = false) (hm0 : -1 ≤ m) (hm : m ≤ 3)
    (hf : ∀ w : World, Calls Try.prog 23 #[.int .u8 (bt s 0)] w fun e w' => e = .returned (.tuple #[.int .i64 m, .int .i32 c, .agg #[.int .u8 lo, .int .u8 hi]]) ∧ Below w.heap.size w w')
    (hr : goOn s m m.toNat 1 c lo hi = r) :
    Calls Try.prog 17 #[.string s] w fun e w' => e = .returned (.tuple #[.int .i32 r.1, .int .i64 r.2]) ∧ Below w.heap.size w w' := by
  have hq : (0 < s.size) = True := eq_true hp
  have hx5 : ∀ h : 0 < s.size, ((s[0]'h).toNat : Int) = bt s 0 := bt_at s 0
  have HR := Lib.hid hr
  clear hr hp
  have HF := Lib.hid hf
  clear hf
  go_enter Try.func17, Try.ntmps17
  go_wp2_with (go_at_call 23; refine (HF.out _).mono ?_; rintro e w1 ⟨rfl, hb1⟩)
  have hs1 : w1.cell? ⟨w.heap.size, 0, none⟩ = some (.string s) := by
    have := hb1.cell (p := ⟨w.heap.size, 0, none⟩) (by simp)
    rw [this]; simp [go_sem]
  have hz : w.heap.size < w1.heap.size := by have := hb1.size; simp at this; omega
  have hB1 : Below w.heap.size w w1 := ((Below.refl _ _).alloc (Nat.le_refl _) _).trans (hb1.mono (by simp))
  clear hx5 hq hb hb1 HF
  go_loopw [5, 8] (fun v5 v8 wr => ∃ c' i lo' hi' : Int, v5 = .int .i32 c' ∧ v8 = .int .i64 i ∧ 1 ≤ i ∧ i ≤ 4 ∧ Hid (goOn s m (m + 1 - i).toNat i c' lo' hi' = r) ∧ wr.cell? ⟨w.heap.size, 0, none⟩ = some (.string s) ∧ wr.cell? ⟨w1.heap.size, 0, none⟩ = some (.int .u8 lo') ∧ wr.cell? ⟨w1.heap.size, 1, none⟩ = some (.int .u8 hi') ∧ wr.frozen? ⟨w1.heap.size, 0, none⟩ = false ∧ wr.frozen? ⟨w1.heap.size, 1, none⟩ = false ∧ Below w.heap.size w wr) (fun _ v8 _ => (m + 1 - intOf v8).toNat)
  case atStart =>
    refine ⟨c, 1, lo, hi, rfl, rfl, by omega, by omega, Lib.hid ?_, ?_, ?_, ?_, ?_, ?_, hB1.alloc (by omega) _⟩
    · rw [← HR.out]; congr 1; omega
    · rw [World.cell?_alloc_lt _ _ _ hz]; exact hs1
    · exact World.cell?_alloc_new _ _ _ _
    · exact World.cell?_alloc_new _ _ _ _
    · exact World.frozen?_alloc_new _ _ _ _
    · exact World.frozen?_alloc_new _ _ _ _
  case round =>
    obtain ⟨c', i, lo', hi', rfl, rfl, hi1, hi4, HG, hcs, hcl, hch, hfl, hfh, hB⟩ := hrel
    by_cases him : i ≤ m
    · have hin := in_any s lo' hi' i _ _ wr hcs hcl hch (by omega)
      obtain ⟨f, hf⟩ : ∃ f : Nat, (m + 1 - i).toNat = f + 1 := ⟨(m - i).toNat, by omega⟩
      by_cases hd : i < (s.size : Int) ∧ lo' ≤ bt s i ∧ bt s i ≤ hi'
      · have HI := Lib.hid (hin true (by rw [decide_eq_true hd]))
        have HG2 : Hid (goOn s m (m + 1 - (i + 1)).toNat (i + 1) (bits .or .i32 (wrap32 (c' * 64)) (bt s i % 64)) 128 191 = r) := by
          refine Lib.hid ?_
          have := HG.out
          rw [hf, goOn, if_pos hd] at this
          rw [← this]
          congr 1; omega
        have hx5 : ∀ h : i.toNat < s.size, ((s[i.toNat]'h).toNat : Int) = bt s i := bt_at s i
        have hbr := bt_range s i
        obtain ⟨hbr0, hbr1⟩ := hbr
        have p5 : (0 ≤ i) = True := eq_true (by omega)
        have q5 : (i < (s.size : Int)) = True := eq_true hd.1
        clear hin HG hf
        clear hd
        go_wp2_with (go_at_call 24; refine HI.out.mono ?_; rintro e w2 ⟨rfl, n2, rfl⟩)
        go_roundw
        case rel =>
          refine ⟨_, i + 1, 128, 191, rfl, rfl, by omega, by omega, HG2, ?_, ?_, ?_, ?_, ?_, ?_⟩
          · rw [World.cell?_setCell_other _ _ _ _ (by intro e; injection e with e1; omega), World.cell?_setCell_other _ _ _ _ (by intro e; injection e with e1; omega)]; exact hcs
          · rw [World.cell?_setCell_other _ _ _ _ (by intro e; injection e with e1 e2; omega), World.cell?_setCell_same _ _ _ (show (wr.drewN n2).cell? _ = some _ from hcl)]
          · rw [World.cell?_setCell_same _ _ _ (show ((wr.drewN n2).setCell _ _).cell? _ = some (.int .u8 hi') by rw [World.cell?_setCell_other _ _ _ _ (by intro e; injection e with e1 e2; omega)]; exact hch)]
          · rw [World.frozen?_setCell, World.frozen?_setCell]; exact hfl
          · rw [World.frozen?_setCell, World.frozen?_setCell]; exact hfh
          · exact ((pw_below_drewN hB _).setCell (by simp; omega) _).setCell (by simp; omega) _
        case measure => simp [intOf]; omega
      · have HI := Lib.hid (hin false (by rw [decide_eq_false hd]))
        have HR2 : r = (65533, i) := by
          have := HG.out
          rw [hf, goOn, if_neg hd] at this
          exact this.symm
        subst HR2
        clear hin HG hf hd
        go_wp2_with (go_at_call 24; refine HI.out.mono ?_; rintro e w2 ⟨rfl, n2, rfl⟩)
        go_ret2
        exact ⟨rfl, pw_below_drewN hB _⟩
    · by_cases h0 : 0 ≤ m
      · have HR2 : r = (c', m + 1) := by
          have := HG.out
          rw [show (m + 1 - i).toNat = 0 by omega, goOn, show mx m 0 = m by unfold mx; omega] at this
          exact this.symm
        subst HR2
        clear HG
        go_wp2
        go_ret2
        exact ⟨rfl, hB⟩
      · have HR2 : r = (c', 1) := by
          have := HG.out
          rw [show (m + 1 - i).toNat = 0 by omega, goOn, show mx m 0 = 0 by unfold mx; omega] at this
          exact this.symm
        subst HR2
        clear HG
        go_wp2
        go_ret2
        exact ⟨rfl, hB⟩

set_option maxHeartbeats 400000 in
theorem next_low (s : ByteArray) (w : World) (hp : 0 < s.size) (hb : decide (bt s 0 < 128) = true) :
    Calls Try.prog 17 #[.string s] w fun e w' => e = .returned (.tuple #[.int .i32 (bt s 0), .int .i64 1]) ∧ Below w.heap.size w w' := by
  have hq : (0 < s.size) = True := eq_true hp
  have hx5 : ∀ h : 0 < s.size, ((s[0]'h).toNat : Int) = bt s 0 := bt_at s 0
  obtain ⟨hbr0, hbr1⟩ := bt_range s 0
  clear hp
  go_enter Try.func17, Try.ntmps17
  go_wp2
  go_ret2
  exact ⟨rfl, (Below.refl _ _).alloc (Nat.le_refl _) _⟩

theorem utf_next.calls (a0 : ByteArray) (r1 r2 : Int) (w : World) (h : utf_next.f a0 = some (r1, r2)) :
    Calls Try.prog 17 #[.string a0] w fun e w' => e = .returned (.tuple #[.int .i32 r1, .int .i64 r2]) ∧ Below w.heap.size w w' := by
  unfold utf_next.f at h
  by_cases hp : 0 < (a0.size : Int)
  · rw [if_pos hp] at h
    have h' := Option.some.inj h
    by_cases hb : bt a0 0 < 128
    · rw [if_pos hb] at h'
      obtain ⟨rfl, rfl⟩ := Prod.mk.inj h'
      exact next_low a0 w (by omega) (decide_eq_true hb)
    · rw [if_neg hb] at h'
      exact next_more a0 _ _ _ _ (r1, r2) w (by omega) (decide_eq_false hb) (first4_m _).1 (first4_m _).2 (fun w => first_any _ w (by omega)) h'
  · rw [if_neg hp] at h
    exact absurd h (by simp)
end Go.Proofs.Ytlbceljgmkojeaa
