/- The law function PathAdds, walked by hand: it returns true. -/
import Derived.Test.YtedkaedeahobjaaAdds
namespace Go.Proofs.Ytedkaedeahobjaa.PRad
open Go.RowKit Go.Proofs.Ytedkaedeahobjaa.PPth Go.Proofs.YtedkaedeahobjaaW.PrintWords Go.Proofs.YtedkaedeahobjaaW.PrintLast Go.Proofs.YtedkaedeahobjaaW.PrintMore
set_option linter.unusedVariables false
set_option linter.unusedSimpArgs false

theorem drawn_below {w w' : World} (h : Drawn0 w w') : Below w.heap.size w w' := by
  obtain ⟨nd, rfl⟩ := h
  exact pw_below_drewN (Below.refl _ w) nd
set_option maxRecDepth 100000 in
set_option maxHeartbeats 4000000 in
theorem adds_few (a0 : ByteArray) (A1 : Option Addr) (c1 : Nat) (l : List ByteArray) (s0 s1 : ByteArray) (w : World) (hr1 : Kd.C Kd.string w A1 l.length l) (hc1 : l.length ≤ c1) (K : Nat) (hfew : gatepostref01_Few.f K l = some false) :
    Calls Try.prog 6 #[.string a0, .slice A1 l.length c1, .agg #[.string s0, .string s1]] w fun e w' => e = .returned (.bool true) ∧ Below w.heap.size w w' := by
  have HR := Aside0.mk hr1
  have HC1 := Aside0.mk hc1
  have HFW := Aside0.mk hfew
  clear hr1 hc1 hfew
  go_enter Try.func6, Try.ntmps6
  go_wp2_with (first
    | (go_at_call 8; (with_reducible refine (gatepostlaw11_awake.calls true _ awake_f).mono ?_); rintro e w5 ⟨rfl, hb⟩; have HB := Aside0.mk (((Below.refl w.heap.size w).alloc (Nat.le_refl _) (.cells #[.string s0, .string s1] 32)).trans (hb.mono (by simp))); clear hb)
    | (go_at_call 9; (with_reducible refine (gatepostref01_Few.calls K A1 c1 l false _ (Kd.C_below HR.out HB.out) HC1.out HFW.out).mono ?_); rintro e w6 ⟨rfl, hd⟩; have HB6 := Aside0.mk (HB.out.trans ((drawn_below hd).mono HB.out.size)); clear hd HB))
  go_ret
  exact ⟨rfl, HB6.out⟩
set_option maxRecDepth 100000 in
set_option maxHeartbeats 4000000 in
theorem adds_scheme (a0 : ByteArray) (A1 : Option Addr) (c1 : Nat) (l : List ByteArray) (s0 s1 : ByteArray) (w : World) (hr1 : Kd.C Kd.string w A1 l.length l) (hc1 : l.length ≤ c1) (K : Nat) (hfew : gatepostref01_Few.f K l = some true) (h60 : a0.size > 60) :
    Calls Try.prog 6 #[.string a0, .slice A1 l.length c1, .agg #[.string s0, .string s1]] w fun e w' => e = .returned (.bool true) ∧ Below w.heap.size w w' := by
  have HR := Aside0.mk hr1
  have HC1 := Aside0.mk hc1
  have HFW := Aside0.mk hfew
  have d0 : decide ((a0.size : Int) > 60) = true := decide_eq_true (by omega)
  have d1 : decide (60 < (a0.size : Int)) = true := decide_eq_true (by omega)
  have d2 : decide (60 < a0.size) = true := decide_eq_true (by omega)
  clear hr1 hc1 hfew
  go_enter Try.func6, Try.ntmps6
  go_wp2_with (first
    | (go_at_call 8; (with_reducible refine (gatepostlaw11_awake.calls true _ awake_f).mono ?_); rintro e w5 ⟨rfl, hb⟩; have HB := Aside0.mk (((Below.refl w.heap.size w).alloc (Nat.le_refl _) (.cells #[.string s0, .string s1] 32)).trans (hb.mono (by simp))); clear hb)
    | (go_at_call 9; (with_reducible refine (gatepostref01_Few.calls K A1 c1 l true _ (Kd.C_below HR.out HB.out) HC1.out HFW.out).mono ?_); rintro e w6 ⟨rfl, hd⟩; have HB6 := Aside0.mk (HB.out.trans ((drawn_below hd).mono HB.out.size)); clear hd HB))
  go_ret
  exact ⟨rfl, HB6.out⟩
set_option maxRecDepth 100000 in
set_option maxHeartbeats 4000000 in
theorem adds_seg (a0 : ByteArray) (A1 : Option Addr) (c1 : Nat) (l : List ByteArray) (s0 s1 : ByteArray) (w : World) (hr1 : Kd.C Kd.string w A1 l.length l) (hc1 : l.length ≤ c1) (K : Nat) (hfew : gatepostref01_Few.f K l = some true) (h60 : ¬ a0.size > 60) (h61 : s0.size > 60) :
    Calls Try.prog 6 #[.string a0, .slice A1 l.length c1, .agg #[.string s0, .string s1]] w fun e w' => e = .returned (.bool true) ∧ Below w.heap.size w w' := by
  have HR := Aside0.mk hr1
  have HC1 := Aside0.mk hc1
  have HFW := Aside0.mk hfew
  have d0 : decide ((a0.size : Int) > 60) = false := decide_eq_false (by omega)
  have d1 : decide (60 < (a0.size : Int)) = false := decide_eq_false (by omega)
  have d2 : decide (60 < a0.size) = false := decide_eq_false (by omega)
  have b0 : decide ((s0.size : Int) > 60) = true := decide_eq_true (by omega)
  have b1 : decide (60 < (s0.size : Int)) = true := decide_eq_true (by omega)
  have b2 : decide (60 < s0.size) = true := decide_eq_true (by omega)
  clear hr1 hc1 hfew
  have kk0 : (w.alloc (.cells #[.string s0, .string s1] 32)).cell? ⟨w.heap.size, 0, none⟩ = some (.string s0) := World.cell?_alloc_new w _ _ 0
  go_enter Try.func6, Try.ntmps6
  go_wp2_with (first
    | (go_at_call 8; (with_reducible refine (gatepostlaw11_awake.calls true _ awake_f).mono ?_); rintro e w5 ⟨rfl, hb⟩; have HB := Aside0.mk (((Below.refl w.heap.size w).alloc (Nat.le_refl _) (.cells #[.string s0, .string s1] 32)).trans (hb.mono (by simp))); have k0 := pw_cell_below hb kk0; clear hb kk0)
    | (go_at_call 9; (with_reducible refine (gatepostref01_Few.calls K A1 c1 l true _ (Kd.C_below HR.out HB.out) HC1.out HFW.out).mono ?_); rintro e w6 ⟨rfl, hd⟩; have HB6 := Aside0.mk (HB.out.trans ((drawn_below hd).mono HB.out.size)); have k1 := pw_cell_below (drawn_below hd) k0; clear hd HB k0))
  go_ret
  exact ⟨rfl, HB6.out⟩
set_option maxRecDepth 100000 in
set_option maxHeartbeats 8000000 in
theorem adds_main (a0 : ByteArray) (A1 : Option Addr) (c1 : Nat) (l : List ByteArray) (s0 s1 : ByteArray) (w : World) (hr1 : Kd.C Kd.string w A1 l.length l) (hc1 : l.length ≤ c1) (K : Nat) (b : Bool) (ra q : List ByteArray) (t : ByteArray)
    (hfew : gatepostref01_Few.f K l = some true) (h60 : ¬ a0.size > 60) (h61 : ¬ s0.size > 60) (hln : l.length ≤ 20) (f1 : (s1.toList == ([] : List UInt8)) = b)
    (ha1 : path_Add.f a0 l s0 b = some ra) (ha2 : gatepostref11_Add.f K a0 l s0 b = some ra) (ha3 : gatepostref11_Same.f K ra ra = some true)
    (hq1 : path_Shorten.f a0 l = some q) (hq2 : gatepostref11_Shorten.f a0 l = some q) (hq3 : gatepostref11_Same.f K q q = some true)
    (ht1 : path_Text.f l = some t) (ht2 : gatepostref11_Text.f K l = some t) (hl3 : gatepostref11_Same.f K l l = some true) :
    Calls Try.prog 6 #[.string a0, .slice A1 l.length c1, .agg #[.string s0, .string s1]] w fun e w' => e = .returned (.bool true) ∧ Below w.heap.size w w' := by
  have HR := Aside0.mk hr1
  have HC1 := Aside0.mk hc1
  have HFW := Aside0.mk hfew
  have HLN := Aside0.mk hln
  have HA1 := Aside0.mk ha1
  have HA2 := Aside0.mk ha2
  have HA3 := Aside0.mk ha3
  have HQ1 := Aside0.mk hq1
  have HQ2 := Aside0.mk hq2
  have HQ3 := Aside0.mk hq3
  have HT1 := Aside0.mk ht1
  have HT2 := Aside0.mk ht2
  have HL3 := Aside0.mk hl3
  have d0 : decide ((a0.size : Int) > 60) = false := decide_eq_false (by omega)
  have d1 : decide (60 < (a0.size : Int)) = false := decide_eq_false (by omega)
  have d2 : decide (60 < a0.size) = false := decide_eq_false (by omega)
  have b0 : decide ((s0.size : Int) > 60) = false := decide_eq_false (by omega)
  have b1 : decide (60 < (s0.size : Int)) = false := decide_eq_false (by omega)
  have b2 : decide (60 < s0.size) = false := decide_eq_false (by omega)
  clear hr1 hc1 hfew hln ha1 ha2 ha3 hq1 hq2 hq3 ht1 ht2 hl3
  have kk0 : (w.alloc (.cells #[.string s0, .string s1] 32)).cell? ⟨w.heap.size, 0, none⟩ = some (.string s0) := World.cell?_alloc_new w _ _ 0
  have kk1 : (w.alloc (.cells #[.string s0, .string s1] 32)).cell? ⟨w.heap.size, 1, none⟩ = some (.string s1) := World.cell?_alloc_new w _ _ 1
  go_enter Try.func6, Try.ntmps6
  go_wp2_with (first
    | (go_at_call 8; (with_reducible refine (gatepostlaw11_awake.calls true _ awake_f).mono ?_); rintro e w5 ⟨rfl, hb⟩; have HB := Aside0.mk (((Below.refl w.heap.size w).alloc (Nat.le_refl _) (.cells #[.string s0, .string s1] 32)).trans (hb.mono (by simp))); have k0 := pw_cell_below hb kk0; have k1 := pw_cell_below hb kk1; clear hb kk0 kk1)
    | (go_at_call 9; (with_reducible refine (gatepostref01_Few.calls K A1 c1 l true _ (Kd.C_below HR.out HB.out) HC1.out HFW.out).mono ?_); rintro e w6 ⟨rfl, hd⟩; have hb := drawn_below hd; clear hd; have HB_ := Aside0.mk (HB.out.trans (hb.mono HB.out.size)); clear HB; have HB := HB_; clear HB_; have k0_ := pw_cell_below hb k0; have k1_ := pw_cell_below hb k1; clear k0 k1; have k0 := k0_; have k1 := k1_; clear k0_ k1_; clear hb)
    | ((with_reducible refine gate_dst (N := 28) rfl ?_); (try (refine gate_guard (by rfl) ?_; dsimp only)); refine Kd.R_lit Kd.string _ 9 ?hg (N := 28) ?hd (xs := ([] : List ByteArray)) (inner := []) (ok := fun _ => True) (okp := fun _ => True) ?hr ?hp (fun _ hk => hk) trivial (Below.refl _ _) (Nat.le_refl _) (by simp) ?_; (case hd => rfl); (case hg => rfl); (case hr => first | (go_simp; done) | (go_simp; rfl)); (case hp => exact (Reps.none _ _)); intro v102 w7 ho8 hb hg_ hnew_; clear hg_ hnew_; have HO := Aside0.mk ho8; have HBL := Aside0.mk hb; clear ho8 hb)
    | ((with_reducible refine gate_builtin (b := .append) (xs := #[.tmp 28, .tmp 29]) rfl ?_); (try (refine gate_guard (by rfl) ?_; dsimp only)); at_builtin; refine Kd.R_append_rows Kd.string (w0 := w6) w6.heap.size rfl (.tmp 28) (.tmp 29) 22 9 (.string ⟨#[]⟩) 16 rfl Try.underlying22 info9 rfl (by decide) (by omega) v102 ([] : List ByteArray) l _ _ _ (fun _ => True) (fun _ => False) rfl rfl HO.out (Kd.C_below HR.out (HB.out.trans (HBL.out.mono HB.out.size))) (fun _ _ h => h) (fun _ h => h.elim) (fun _ _ => trivial) HBL.out (below_size HBL.out) (by have := HLN.out; simp only [List.length_nil]; omega) ?_; intro v105 w9 ho hb hg hat; clear hg hat HO HBL; have ho1 : Kd.R Kd.string 9 w9 w6.heap.size (fun _ => True) v105 l := ho; clear ho; obtain ⟨AW, cW, rfl, hcW, hrW⟩ := Kd.R_reads ho1; have HCW := Aside0.mk hcW; have HRW := Aside0.mk hrW; clear ho1 hcW hrW; have HB_ := Aside0.mk (HB.out.trans (hb.mono HB.out.size)); clear HB; have HB := HB_; clear HB_; have k0_ := pw_cell_below hb k0; have k1_ := pw_cell_below hb k1; clear k0 k1; have k0 := k0_; have k1 := k1_; clear k0_ k1_; clear hb)
    | (go_at_call 10; (with_reducible refine (path_Add.calls a0 A1 c1 l s0 b ra _ (Kd.C_below HR.out HB.out) HC1.out HA1.out).mono ?_); rintro e w10 ⟨v, rfl, hv, hb⟩; obtain ⟨AA, cA, rfl, hcA, hrA⟩ := Kd.R_reads hv; clear hv; have HCA := Aside0.mk hcA; have HRA := Aside0.mk hrA; clear hcA hrA; have HRW_ := Aside0.mk (Kd.C_below HRW.out hb); clear HRW; have HRW := HRW_; clear HRW_; have HB_ := Aside0.mk (HB.out.trans (hb.mono HB.out.size)); clear HB; have HB := HB_; clear HB_; have k0_ := pw_cell_below hb k0; have k1_ := pw_cell_below hb k1; clear k0 k1; have k0 := k0_; have k1 := k1_; clear k0_ k1_; clear hb)
    | (go_at_call 11; (with_reducible refine (path_Shorten.calls a0 A1 c1 l q _ (Kd.C_below HR.out HB.out) HC1.out HQ1.out).mono ?_); rintro e w11 ⟨v, rfl, hv, hb⟩; obtain ⟨AS, cS, rfl, hcS, hrS⟩ := Kd.R_reads hv; clear hv; have HCS := Aside0.mk hcS; have HRS := Aside0.mk hrS; clear hcS hrS; have HRW_ := Aside0.mk (Kd.C_below HRW.out hb); clear HRW; have HRW := HRW_; clear HRW_; have HRA_ := Aside0.mk (Kd.C_below HRA.out hb); clear HRA; have HRA := HRA_; clear HRA_; have HB_ := Aside0.mk (HB.out.trans (hb.mono HB.out.size)); clear HB; have HB := HB_; clear HB_; have k0_ := pw_cell_below hb k0; have k1_ := pw_cell_below hb k1; clear k0 k1; have k0 := k0_; have k1 := k1_; clear k0_ k1_; clear hb)
    | (go_at_call 21; (with_reducible refine (gatepostref11_Add.calls K a0 A1 c1 l s0 b ra _ (Kd.C_below HR.out HB.out) HC1.out HA2.out).mono ?_); rintro e w12 ⟨v, rfl, hv, hb⟩; obtain ⟨AB, cB, rfl, hcB, hrB⟩ := Kd.R_reads hv; clear hv; have HCB := Aside0.mk hcB; have HRB := Aside0.mk hrB; clear hcB hrB; have HRW_ := Aside0.mk (Kd.C_below HRW.out hb); clear HRW; have HRW := HRW_; clear HRW_; have HRA_ := Aside0.mk (Kd.C_below HRA.out hb); clear HRA; have HRA := HRA_; clear HRA_; have HRS_ := Aside0.mk (Kd.C_below HRS.out hb); clear HRS; have HRS := HRS_; clear HRS_; have HB_ := Aside0.mk (HB.out.trans (hb.mono HB.out.size)); clear HB; have HB := HB_; clear HB_; have k0_ := pw_cell_below hb k0; have k1_ := pw_cell_below hb k1; clear k0 k1; have k0 := k0_; have k1 := k1_; clear k0_ k1_; clear hb)
    | (go_at_call 15; (with_reducible refine (gatepostref11_Same.calls K AA cA ra AB cB ra true _ HRA.out HCA.out HRB.out HCB.out HA3.out).mono ?_); rintro e w13 ⟨rfl, hd⟩; have hb := drawn_below hd; clear hd HRA HCA HRB HCB; have HRW_ := Aside0.mk (Kd.C_below HRW.out hb); clear HRW; have HRW := HRW_; clear HRW_; have HRS_ := Aside0.mk (Kd.C_below HRS.out hb); clear HRS; have HRS := HRS_; clear HRS_; have HB_ := Aside0.mk (HB.out.trans (hb.mono HB.out.size)); clear HB; have HB := HB_; clear HB_; have k0_ := pw_cell_below hb k0; have k1_ := pw_cell_below hb k1; clear k0 k1; have k0 := k0_; have k1 := k1_; clear k0_ k1_; clear hb)
    | (go_at_call 22; (with_reducible refine (gatepostref11_Shorten.calls a0 A1 c1 l q _ (Kd.C_below HR.out HB.out) HC1.out HQ2.out).mono ?_); rintro e w14 ⟨AT, cT, rfl, hcT, hrT, hb⟩; have HCT := Aside0.mk hcT; have HRT := Aside0.mk hrT; clear hcT hrT; have HRW_ := Aside0.mk (Kd.C_below HRW.out hb); clear HRW; have HRW := HRW_; clear HRW_; have HRS_ := Aside0.mk (Kd.C_below HRS.out hb); clear HRS; have HRS := HRS_; clear HRS_; have HB_ := Aside0.mk (HB.out.trans (hb.mono HB.out.size)); clear HB; have HB := HB_; clear HB_; have k0_ := pw_cell_below hb k0; have k1_ := pw_cell_below hb k1; clear k0 k1; have k0 := k0_; have k1 := k1_; clear k0_ k1_; clear hb)
    | (go_at_call 15; (with_reducible refine (gatepostref11_Same.calls K AS cS q AT cT q true _ HRS.out HCS.out HRT.out HCT.out HQ3.out).mono ?_); rintro e w15 ⟨rfl, hd⟩; have hb := drawn_below hd; clear hd HRS HCS HRT HCT; have HRW_ := Aside0.mk (Kd.C_below HRW.out hb); clear HRW; have HRW := HRW_; clear HRW_; have HB_ := Aside0.mk (HB.out.trans (hb.mono HB.out.size)); clear HB; have HB := HB_; clear HB_; have k0_ := pw_cell_below hb k0; have k1_ := pw_cell_below hb k1; clear k0 k1; have k0 := k0_; have k1 := k1_; clear k0_ k1_; clear hb)
    | (go_at_call 23; (with_reducible refine (path_Text.calls A1 c1 l t _ (Kd.C_below HR.out HB.out) HC1.out HT1.out).mono ?_); rintro e w16 ⟨rfl, hb⟩; have HRW_ := Aside0.mk (Kd.C_below HRW.out hb); clear HRW; have HRW := HRW_; clear HRW_; have HB_ := Aside0.mk (HB.out.trans (hb.mono HB.out.size)); clear HB; have HB := HB_; clear HB_; have k0_ := pw_cell_below hb k0; have k1_ := pw_cell_below hb k1; clear k0 k1; have k0 := k0_; have k1 := k1_; clear k0_ k1_; clear hb)
    | (go_at_call 24; (with_reducible refine (gatepostref11_Text.calls K A1 c1 l t _ (Kd.C_below HR.out HB.out) HC1.out HT2.out).mono ?_); rintro e w17 ⟨rfl, hd⟩; have hb := drawn_below hd; clear hd; have HRW_ := Aside0.mk (Kd.C_below HRW.out hb); clear HRW; have HRW := HRW_; clear HRW_; have HB_ := Aside0.mk (HB.out.trans (hb.mono HB.out.size)); clear HB; have HB := HB_; clear HB_; have k0_ := pw_cell_below hb k0; have k1_ := pw_cell_below hb k1; clear k0 k1; have k0 := k0_; have k1 := k1_; clear k0_ k1_; clear hb)
    | (go_at_call 15; (with_reducible refine (gatepostref11_Same.calls K A1 c1 l AW cW l true _ (Kd.C_below HR.out HB.out) HC1.out HRW.out HCW.out HL3.out).mono ?_); rintro e w18 ⟨rfl, hd⟩; have hb := drawn_below hd; clear hd HRW HCW; have HB_ := Aside0.mk (HB.out.trans (hb.mono HB.out.size)); clear HB; have HB := HB_; clear HB_; have k0_ := pw_cell_below hb k0; have k1_ := pw_cell_below hb k1; clear k0 k1; have k0 := k0_; have k1 := k1_; clear k0_ k1_; clear hb))
  go_ret
  exact ⟨rfl, HB.out⟩
/-- PathAdds returns true. -/
theorem adds_true (a0 : ByteArray) (A1 : Option Addr) (c1 : Nat) (l : List ByteArray) (s0 s1 : ByteArray) (w : World) (hr1 : Kd.C Kd.string w A1 l.length l) (hc1 : l.length ≤ c1) :
    Calls Try.prog 6 #[.string a0, .slice A1 l.length c1, .agg #[.string s0, .string s1]] w fun e w' => e = .returned (.bool true) ∧ Below w.heap.size w w' := by
  obtain ⟨k0, hfew⟩ := few_f l
  by_cases hf : few l = true
  · rw [hf] at hfew
    by_cases h60 : a0.size > 60
    · exact adds_scheme a0 A1 c1 l s0 s1 w hr1 hc1 k0 (hfew _ (Nat.le_refl _)) h60
    by_cases h61 : s0.size > 60
    · exact adds_seg a0 A1 c1 l s0 s1 w hr1 hc1 k0 (hfew _ (Nat.le_refl _)) h60 h61
    obtain ⟨hln, hs⟩ := of_decide_eq_true hf
    have hsh : Short l := fun x hx => by have := hs x hx; omega
    obtain ⟨b, hb⟩ : ∃ b, (s1.toList == ([] : List UInt8)) = b := ⟨_, rfl⟩
    have hal := addL_len a0 l s0 b
    have hsl := shL_len a0 l
    obtain ⟨k1, h1⟩ := radd_f a0 l s0 b (by omega) (by omega)
    obtain ⟨k2, h2⟩ := same_f (addL a0 l s0 b) (by omega)
    obtain ⟨k3, h3⟩ := same_f (shL a0 l) (by omega)
    obtain ⟨k4, h4⟩ := same_f l (by omega)
    obtain ⟨k5, h5⟩ := text_f l (by omega) hsh
    exact adds_main a0 A1 c1 l s0 s1 w hr1 hc1 (k0 + k1 + k2 + k3 + k4 + k5) b (addL a0 l s0 b) (shL a0 l) ⟨(txL l).toArray⟩ (hfew _ (by omega)) h60 h61 hln hb
      (add_f a0 l s0 b (by omega) (by omega)) (h1 _ (by omega)) (h2 _ (by omega)) (shorten_f a0 l (by omega)) (rsh_f a0 l (by omega)) (h3 _ (by omega))
      (by unfold path_Text.f; rw [if_pos ⟨by omega, hsh⟩]) (h5 _ (by omega)) (h4 _ (by omega))
  · rw [Bool.eq_false_iff.2 hf] at hfew
    exact adds_few a0 A1 c1 l s0 s1 w hr1 hc1 k0 (hfew _ (Nat.le_refl _))
end Go.Proofs.Ytedkaedeahobjaa.PRad
