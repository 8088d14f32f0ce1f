/- The sets of chapter 03 as plain functions; pct.In, pct.value and utf.Encode come to them; nothing that lay before is changed. -/
import Derived.Test.YtbdiklhffngjmaaConA
import Derived.Test.YtbdiklhffngjmaaSign
namespace Go.Proofs.Ytbdiklhffngjmaa
open Go.RowKit Go.Proofs.Ytbdiklhffngjmaa.Uni Go.Proofs.YtbdiklhffngjmaaW.PrintWords Go.Proofs.YtbdiklhffngjmaaW.PrintLast Go.Proofs.YtbdiklhffngjmaaW.PrintMore
set_option linter.unusedVariables false
set_option linter.unusedSimpArgs false

/-! ### 1. The first place of a byte -/
theorem idx_mem (l : List UInt8) (x : UInt8) : 0 ≤ Lib.indexByte l x ↔ x ∈ l := by
  induction l with
  | nil => simp [Lib.indexByte]
  | cons b l ih =>
    have hg := Lib.indexByte_ge l x
    by_cases h : b = x
    · subst h; simp [Lib.indexByte]
    · have h' : (b == x) = false := by simp [h]
      simp only [Lib.indexByte, h', Bool.false_eq_true, if_false]
      by_cases h1 : Lib.indexByte l x = -1
      · have h2 : ¬ x ∈ l := fun hm => by have := ih.2 hm; omega
        simp [h1, h2, Ne.symm h]
      · have h1' : (Lib.indexByte l x == -1) = false := by simp [h1]
        rw [h1']
        have h2 : x ∈ l := ih.1 (by omega)
        simp [h2]; omega
def inL (c : Int) (L : List Int) : Bool := decide (c ∈ L)
theorem u8_nat (c : Int) (h0 : 0 ≤ c) (h1 : c < 256) : (c.toNat.toUInt8.toNat : Int) = c := by
  simp [Nat.toUInt8, UInt8.toNat_ofNat']; omega
theorem mem_bytes (s : ByteArray) (c : Int) (h0 : 0 ≤ c) (h1 : c < 256) : c.toNat.toUInt8 ∈ s.data.toList ↔ c ∈ bytesOf s := by
  unfold bytesOf
  rw [List.mem_map]
  constructor
  · intro h
    exact ⟨_, h, u8_nat c h0 h1⟩
  · rintro ⟨b, hb, rfl⟩
    have : ((b.toNat : Int).toNat.toUInt8) = b := by simp [Nat.toUInt8]
    rw [this]; exact hb
theorem among_f (c : Int) (s : ByteArray) (hs : ∀ x ∈ bytesOf s, x < 128) : PPre.pct_among.f c s = some (inL c (bytesOf s)) := by
  unfold PPre.pct_among.f inL
  have hr := bytesOf_range s
  by_cases h0 : c ≥ 0
  · rw [if_pos h0]
    by_cases h1 : c < 128
    · rw [if_pos h1, Int.emod_eq_of_lt (by omega) (by omega)]
      unfold strings_IndexByte.f
      simp only [Option.bind_some, Option.some.injEq, decide_eq_decide]
      exact (idx_mem _ _).trans (mem_bytes s c (by omega) (by omega))
    · rw [if_neg h1]
      have : c ∉ bytesOf s := fun h => h1 (hs c h)
      simp [this]
  · rw [if_neg h0]
    have : c ∉ bytesOf s := fun h => h0 (hr c h).1
    simp [this]

/-! ### 2. The sets -/
def ctl (c : Int) : Bool := decide (c < 32) || decide (126 < c)
def qryS (c : Int) : Bool := ctl c || inL c [32, 34, 35, 60, 62]
def pthS (c : Int) : Bool := qryS c || inL c [63, 94, 123, 125, 96]
def usrS (c : Int) : Bool := pthS c || inL c [47, 58, 59, 61, 64, 91, 92, 93, 124]
def inS (s c : Int) : Bool :=
  if s = 1 then ctl c else if s = 2 then ctl c || inL c [32, 34, 60, 62, 96] else if s = 3 then qryS c else if s = 4 then qryS c || decide (c = 39)
  else if s = 5 then pthS c else if s = 6 then usrS c else if s = 7 then usrS c || inL c [36, 37, 38, 43, 44] else false
theorem a_qry (c : Int) : PPre.pct_among.f c (⟨#[32, 34, 35, 60, 62]⟩ : ByteArray) = some (inL c [32, 34, 35, 60, 62]) := among_f c _ (by decide)
theorem a_pth (c : Int) : PPre.pct_among.f c (⟨#[63, 94, 123, 125, 96]⟩ : ByteArray) = some (inL c [63, 94, 123, 125, 96]) := among_f c _ (by decide)
theorem a_usr (c : Int) : PPre.pct_among.f c (⟨#[47, 58, 59, 61, 64, 91, 92, 93, 124]⟩ : ByteArray) = some (inL c [47, 58, 59, 61, 64, 91, 92, 93, 124]) := among_f c _ (by decide)
theorem a_cmp (c : Int) : PPre.pct_among.f c (⟨#[36, 37, 38, 43, 44]⟩ : ByteArray) = some (inL c [36, 37, 38, 43, 44]) := among_f c _ (by decide)
theorem a_frg (c : Int) : PPre.pct_among.f c (⟨#[32, 34, 60, 62, 96]⟩ : ByteArray) = some (inL c [32, 34, 60, 62, 96]) := among_f c _ (by decide)
theorem in_1 (k : Nat) (c : Int) : PPre.pct_In.f (k + 1) 1 c = some (ctl c) := by
  rw [PPre.pct_In.f, if_neg (by decide), if_neg (by decide), if_neg (by decide), if_neg (by decide), if_neg (by decide), if_neg (by decide), if_pos rfl]
  unfold ctl
  by_cases h : c < 32
  · rw [if_pos h]; simp [h]
  · rw [if_neg h]; simp [h]
theorem in_j (k : Nat) (c : Int) (b : Bool) : PPre.pct_In.j0 (k + 2) c b = some (b || qryS c) := by
  rw [PPre.pct_In.j0]
  cases b
  · rw [if_neg (by decide), a_qry]
    simp only [Option.bind_some]
    unfold qryS
    cases inL c [32, 34, 35, 60, 62]
    · rw [if_neg (by decide), in_1]; simp
    · simp
  · simp
theorem in_3 (k : Nat) (c : Int) : PPre.pct_In.f (k + 3) 3 c = some (qryS c) := by
  rw [PPre.pct_In.f, if_neg (by decide), if_neg (by decide), if_neg (by decide), if_pos rfl, in_j]
  simp
theorem inS_1 (c : Int) : inS 1 c = ctl c := rfl
theorem inS_2 (c : Int) : inS 2 c = (ctl c || inL c [32, 34, 60, 62, 96]) := rfl
theorem inS_3 (c : Int) : inS 3 c = qryS c := rfl
theorem inS_4 (c : Int) : inS 4 c = (qryS c || decide (c = 39)) := rfl
theorem inS_5 (c : Int) : inS 5 c = pthS c := rfl
theorem inS_6 (c : Int) : inS 6 c = usrS c := rfl
theorem inS_7 (c : Int) : inS 7 c = (usrS c || inL c [36, 37, 38, 43, 44]) := rfl
theorem inS_no (s c : Int) (h1 : ¬ s = 1) (h2 : ¬ s = 2) (h3 : ¬ s = 3) (h4 : ¬ s = 4) (h5 : ¬ s = 5) (h6 : ¬ s = 6) (h7 : ¬ s = 7) : inS s c = false := by
  unfold inS
  rw [if_neg h1, if_neg h2, if_neg h3, if_neg h4, if_neg h5, if_neg h6, if_neg h7]
theorem in_f (s c : Int) : PPre.pct_In.f 5 s c = some (inS s c) := by
  rw [show (5 : Nat) = 4 + 1 from rfl, PPre.pct_In.f]
  by_cases h7 : s = 7
  · subst h7
    rw [if_pos rfl, a_cmp, a_usr, a_pth]
    simp only [Option.bind_some, in_j 2]
    rw [inS_7]
    unfold usrS pthS
    cases inL c [36, 37, 38, 43, 44] <;> cases inL c [47, 58, 59, 61, 64, 91, 92, 93, 124] <;> cases inL c [63, 94, 123, 125, 96] <;> cases qryS c <;> rfl
  rw [if_neg h7]
  by_cases h6 : s = 6
  · subst h6
    rw [if_pos rfl, a_usr, a_pth]
    simp only [Option.bind_some, in_j 2]
    rw [inS_6]
    unfold usrS pthS
    cases inL c [47, 58, 59, 61, 64, 91, 92, 93, 124] <;> cases inL c [63, 94, 123, 125, 96] <;> cases qryS c <;> rfl
  rw [if_neg h6]
  by_cases h5 : s = 5
  · subst h5
    rw [if_pos rfl, a_pth]
    simp only [Option.bind_some, in_j 2]
    rw [inS_5]
    unfold pthS
    cases inL c [63, 94, 123, 125, 96] <;> cases qryS c <;> rfl
  rw [if_neg h5]
  by_cases h3 : s = 3
  · subst h3
    rw [if_pos rfl, in_j 2]
    rw [inS_3]
    simp
  rw [if_neg h3]
  by_cases h4 : s = 4
  · subst h4
    rw [if_pos rfl, in_3 1]
    rw [inS_4]
    by_cases h : c = 39
    · rw [if_pos h]; simp [h]
    · rw [if_neg h]; simp [h]
  rw [if_neg h4]
  by_cases h2 : s = 2
  · subst h2
    rw [if_pos rfl, a_frg]
    simp only [Option.bind_some]
    rw [in_1 3]
    rw [inS_2]
    cases inL c [32, 34, 60, 62, 96] <;> simp
  rw [if_neg h2]
  by_cases h1 : s = 1
  · subst h1
    rw [if_pos rfl, inS_1]
    unfold ctl
    by_cases h : c < 32
    · rw [if_pos h]; simp [h]
    · rw [if_neg h]; simp [h]
  rw [if_neg h1, inS_no s c h1 h2 h3 h4 h5 h6 h7]

/-! ### 3. The contracts -/
def pct_In.f (a0 a1 : Int) : Option Bool := some (inS a0 a1)
theorem pct_In.calls (a0 a1 : Int) (r : Bool) (w : World) (h : pct_In.f a0 a1 = some r) :
    Calls Try.prog 9 #[.int .i64 a0, .int .i32 a1] w fun e w' => e = .returned (.bool r) ∧ Below w.heap.size w w' :=
  PPre.pct_In.calls 5 a0 a1 r w ((in_f a0 a1).trans h)
instance (l : List Int) : Decidable (I32 l) := by unfold I32; infer_instance
def utf_Encode.f (l : List Int) : Option ByteArray := if l.length ≤ 10000000000 ∧ I32 l then some (strOfNums (enc l)) else none
theorem utf_Encode.calls (A0 : Option Addr) (c0 : Nat) (l0 : List Int) (r : ByteArray) (w : World) (hr0 : Kd.C (Kd.int .i32) w A0 l0.length l0) (hc0 : l0.length ≤ c0) (h : utf_Encode.f l0 = some r) :
    Calls Try.prog 15 #[.slice A0 l0.length c0] w fun e w' => e = .returned (.string r) ∧ Below w.heap.size w w' := by
  unfold utf_Encode.f at h
  split at h
  · rename_i hh
    exact PPre.utf_Encode.calls (l0.length + 2) A0 c0 l0 r w hr0 hc0 ((encode l0 hh.2 hh.1 _ (Nat.le_refl _)).trans h)
  · cases h

/-- A figure's value, or -1. -/
def val (c : Int) : Int := if 48 ≤ c ∧ c ≤ 57 then c - 48 else if 65 ≤ c ∧ c ≤ 70 then c - 55 else if 97 ≤ c ∧ c ≤ 102 then c - 87 else -1
set_option maxRecDepth 100000 in
set_option maxHeartbeats 2000000 in
theorem idx_figs : ∀ n : Fin 256, Lib.indexByte [48, 49, 50, 51, 52, 53, 54, 55, 56, 57, 65, 66, 67, 68, 69, 70] (n.val.toUInt8) = if 48 ≤ (n.val : Int) ∧ (n.val : Int) ≤ 57 then (n.val : Int) - 48 else if 65 ≤ (n.val : Int) ∧ (n.val : Int) ≤ 70 then (n.val : Int) - 55 else -1 := by decide
theorem idx_fig (c : Int) (h0 : 0 ≤ c) (h1 : c ≤ 255) : strings_IndexByte.f (⟨#[48, 49, 50, 51, 52, 53, 54, 55, 56, 57, 65, 66, 67, 68, 69, 70]⟩ : ByteArray) c = some (if 48 ≤ c ∧ c ≤ 57 then c - 48 else if 65 ≤ c ∧ c ≤ 70 then c - 55 else -1) := by
  have := idx_figs ⟨c.toNat, by omega⟩
  simp only [] at this
  rw [show ((c.toNat : Nat) : Int) = c by omega] at this
  unfold strings_IndexByte.f
  exact congrArg some this
theorem value_of (c : Int) (h0 : 0 ≤ c) (h1 : c ≤ 255) : PPre.pct_value.f c = some (val c) := by
  unfold PPre.pct_value.f val
  by_cases h2 : c ≥ 97
  · rw [if_pos h2]
    by_cases h3 : c ≤ 102
    · rw [if_pos h3, Int.emod_eq_of_lt (by omega) (by omega), idx_fig _ (by omega) (by omega)]
      simp only [Option.bind_some]
      rw [if_neg (by omega), if_pos (by omega), if_neg (by omega), if_neg (by omega), if_pos (by omega)]
      congr 1; omega
    · rw [if_neg h3, idx_fig _ h0 h1]
      simp only [Option.bind_some]
      rw [if_neg (by omega), if_neg (by omega), if_neg (by omega), if_neg (by omega), if_neg (by omega)]
  · rw [if_neg h2, idx_fig _ h0 h1]
    simp only [Option.bind_some]
    by_cases h3 : 48 ≤ c ∧ c ≤ 57
    · rw [if_pos h3, if_pos h3]
    · rw [if_neg h3, if_neg h3]
      by_cases h4 : 65 ≤ c ∧ c ≤ 70
      · rw [if_pos h4, if_pos h4]
      · rw [if_neg h4, if_neg h4, if_neg (by omega)]
end Go.Proofs.Ytbdiklhffngjmaa
