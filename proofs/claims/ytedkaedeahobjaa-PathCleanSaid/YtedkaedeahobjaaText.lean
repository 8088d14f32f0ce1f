/- path.Text, walked. -/
import Derived.Test.YtedkaedeahobjaaBuilder
import Derived.Test.YtedkaedeahobjaaWWords
import Derived.Test.YtedkaedeahobjaaWLast
import Derived.Test.YtedkaedeahobjaaWMore
import Derived.WalkSpells
namespace Go.Proofs.Ytedkaedeahobjaa
open Go.RowKit Go.Proofs.YtedkaedeahobjaaW.PrintWords
set_option linter.unusedVariables false
set_option linter.unusedSimpArgs false

/-- A path as a text. -/
def txL (l : List ByteArray) : List UInt8 := l.flatMap fun s => 47 :: s.data.toList
def Short (l : List ByteArray) : Prop := ∀ x ∈ l, x.size ≤ 1000000
instance (l : List ByteArray) : Decidable (Short l) := inferInstanceAs (Decidable (∀ x ∈ l, x.size ≤ 1000000))
theorem txL_len (l : List ByteArray) (h : Short l) : (txL l).length ≤ l.length * 1000001 := by
  induction l with
  | nil => simp [txL]
  | cons x l ih =>
    have h1 := h x List.mem_cons_self
    have h2 := ih (fun y hy => h y (List.mem_cons_of_mem _ hy))
    have h3 : x.data.toList.length = x.size := rfl
    have e : txL (x :: l) = (47 :: x.data.toList) ++ txL l := by simp [txL]
    rw [e, List.length_append, List.length_cons, List.length_cons, h3]
    omega
theorem txL_snoc (l : List ByteArray) (x : ByteArray) : txL (l ++ [x]) = txL l ++ [47] ++ x.data.toList := by simp [txL]
theorem take_rdOf (l : List ByteArray) (i : Nat) (h : i < l.length) : l.take (i + 1) = l.take i ++ [rdOf ByteArray.empty l (i : Int)] := by
  rw [List.take_succ_eq_append_getElem h]
  unfold rdOf
  simp [List.getD_eq_getElem?_getD, List.getElem?_eq_getElem h]
theorem rdOf_mem' (l : List ByteArray) (i : Nat) (h : i < l.length) : rdOf ByteArray.empty l (i : Int) ∈ l := by
  unfold rdOf
  simp [List.getD_eq_getElem?_getD, List.getElem?_eq_getElem h]
set_option maxHeartbeats 2000000 in
set_option maxRecDepth 100000 in
theorem text_walk (A0 : Option Addr) (c0 : Nat) (l0 : List ByteArray) (w : World) (hr0 : Kd.C Kd.string w A0 l0.length l0) (hc0 : l0.length ≤ c0) (hn : l0.length ≤ 1000000) (hS : Short l0) :
    Calls Try.prog 23 #[.slice A0 l0.length c0] w fun e w' => e = .returned (.string ⟨(txL l0).toArray⟩) ∧ Below w.heap.size w w' := by
  have HR := Aside0.mk (Kd.reads_of_C (d := ByteArray.empty) hr0)
  have HS := Aside0.mk hS
  clear hr0 hS
  go_enter Try.func23, Try.ntmps23
  go_wp2
  go_loopw [8] (fun v8 wr => ∃ (i : Nat), v8 = .int .i64 (i : Int) ∧ i ≤ l0.length ∧ Lib.IsBuilder 42 5 w.heap.size w.heap.size (Lib.byteCells (txL (l0.take i))) wr ∧ Below w.heap.size w wr) (fun v _ => l0.length - (intOf v).toNat)
  case atStart => exact ⟨0, rfl, Nat.zero_le _, Lib.fresh_isBuilder 42 5 w, (Below.refl _ w).alloc (Nat.le_refl _) _⟩
  case round =>
    obtain ⟨i, rfl, hi, hb, hbw⟩ := hrel
    have HBu := Aside0.mk hb
    have HBW := Aside0.mk hbw
    clear hb hbw
    by_cases hlt : i < l0.length
    · have d1 : decide ((i : Int) < (l0.length : Int)) = true := decide_eq_true (by omega)
      have d2 : decide (i < l0.length) = true := decide_eq_true hlt
      have q1 : ((i : Int) < (l0.length : Int)) = True := eq_true (by omega)
      obtain ⟨aP, eP, hpv⟩ := HR.out.at_ (i : Int) (by omega) (by omega)
      cases eP
      have hpv' := pw_cell_below HBW.out hpv
      rw [Int.toNat_natCast] at hpv'
      have hsz := HS.out _ (rdOf_mem' l0 i hlt)
      have HTK := Aside0.mk (take_rdOf l0 i hlt)
      have hle := txL_len (l0.take i) (fun x hx => HS.out x (List.mem_of_mem_take hx))
      have hlen1 : (Lib.byteCells (txL (l0.take i))).length + 1 ≤ 140737488355328 := by rw [Lib.byteCells_length]; rw [List.length_take] at hle; omega
      have hlen2 : (Lib.byteCells (txL (l0.take i)) ++ [Value.int .u8 47]).length + (rdOf ByteArray.empty l0 (i : Int)).size ≤ 140737488355328 := by rw [List.length_append, Lib.byteCells_length]; rw [List.length_take] at hle; simp; omega
      clear hpv hle
      generalize rdOf ByteArray.empty l0 (i : Int) = s at *
      go_wp2_with (first | (go_at_call 34; refine (bd_byteIn w.heap.size w.heap.size _ 47 _ HBu.out hlen1 HBW.out.size).mono ?_; rintro e w1 ⟨rfl, h3, hb⟩; have H1 := Aside0.mk h3; have HB1 := Aside0.mk (HBW.out.trans hb); clear h3 hb) | (go_at_call 35; refine (bd_textIn w.heap.size w.heap.size _ s _ (.inr H1.out) hlen2 HB1.out.size).mono ?_; rintro e w3 ⟨rfl, h3, hb⟩; have H3 := Aside0.mk h3; have HB3 := Aside0.mk (HB1.out.trans hb); clear h3 hb))
      refine ⟨⟨i + 1, by simp, by omega, ?_, HB3.out⟩, by simp [intOf]; omega⟩
      have h3 := H3.out
      rw [HTK.out, txL_snoc, Lib.byteCells_append, Lib.byteCells_append]
      exact Or.inr h3
    · have d1 : decide ((i : Int) < (l0.length : Int)) = false := decide_eq_false (by omega)
      have d2 : decide (i < l0.length) = false := decide_eq_false hlt
      have hall : l0.take i = l0 := List.take_of_length_le (by omega)
      rw [hall] at HBu
      clear hall
      go_wp2_with (go_at_call 36; refine (Try.Builder_String_any w.heap.size w.heap.size _ _ HBu.out HBW.out.size).mono ?_; rintro e w1 ⟨rfl, hb⟩; have HB1 := Aside0.mk hb; clear hb)
      go_ret
      exact ⟨rfl, HBW.out.trans HB1.out⟩
def path_Text.f (l0 : List ByteArray) : Option ByteArray := if l0.length ≤ 1000000 ∧ Short l0 then some ⟨(txL l0).toArray⟩ else none
theorem path_Text.calls (A0 : Option Addr) (c0 : Nat) (l0 : List ByteArray) (r : ByteArray) (w : World) (hr0 : Kd.C Kd.string w A0 l0.length l0) (hc0 : l0.length ≤ c0) (h : path_Text.f l0 = some r) :
    Calls Try.prog 23 #[.slice A0 l0.length c0] w fun e w' => e = .returned (.string r) ∧ Below w.heap.size w w' := by
  unfold path_Text.f at h
  split at h
  · rename_i hh
    obtain rfl := Option.some.inj h
    exact text_walk A0 c0 l0 w hr0 hc0 hh.1 hh.2
  · cases h
end Go.Proofs.Ytedkaedeahobjaa
