-- written by a program of this session (wip/print)
import Derived.Test.YtcfbcoinbecdfaaQLopensx0
import Derived.Test.YtcfbcoinbecdfaaQLopensx2
import Derived.Test.YtcfbcoinbecdfaaQLopensx6
import Derived.Test.YtcfbcoinbecdfaaQLopensx8
namespace Go.Proofs.Ytcfbcoinbecdfaa.P
open Go.RowKit Go.Proofs.YtcfbcoinbecdfaaW.PrintWords Go.Proofs.YtcfbcoinbecdfaaW.PrintLast Go.Proofs.YtcfbcoinbecdfaaW.PrintMore
attribute [local go_sem] max2_int min2_int max_two min_two max_three min_three max_four min_four run_sub64_   -- for this text's walks alone
set_option linter.unusedVariables false
set_option linter.unusedSimpArgs false

/-! ### damsonlaw10_LedgerOpens: function 10 (by hand) -/
def damsonlaw10_LedgerOpens.b (k : Nat) (c d : S25) (a b : List S25) : Option Bool := (ledger_Open.g k a d).bind fun x => (ledger_Open.g k b c).bind fun y => (ledger_Get.f k a c.f0).bind fun t => (ledger_Same.f k x.1 y.1).bind fun m => (channel_Same.f k t.1 t.2.1 t.2.2.1 t.2.2.2.1 t.2.2.2.2.1 t.2.2.2.2.2.1 t.2.2.2.2.2.2.1 c.f0 c.f1 c.f2 c.f3 c.f4 c.f5 c.f6).bind fun s =>
  if x.2 = y.2 ∧ m = true ∧ (x.2 = 0 ∨ x.2 = 7 ∨ x.2 = 8) ∧ t.2.2.2.2.2.2.2 = 0 ∧ s = true then some true else none
def damsonlaw10_LedgerOpens.g (k : Nat) (l : List S25) (c d : S25) : Option Bool := (damsonlaw10_live.f k).bind fun t1 => if t1 = true then (damsonref10_Few.f k l).bind fun t2 => if t2 = true then if c.f5.length ≤ 20 then if d.f5.length ≤ 20 then if ¬ c.f0 = d.f0 then
  (ledger_Open.g k l c).bind fun a => (ledger_Open.g k l d).bind fun b => if a.2 = 0 then if b.2 = 0 then damsonlaw10_LedgerOpens.b k c d a.1 b.1 else some true else some true
  else some true else some true else some true else some true else none
def damsonlaw10_LedgerOpens.f (k : Nat) (l0 : List S25) (a1_0 a1_1 a1_2 a1_3 a1_4 : Int) (l1_5 : List S44) (a1_6 : Bool) (a2_0 a2_1 a2_2 a2_3 a2_4 : Int) (l2_5 : List S44) (a2_6 : Bool) : Option Bool := damsonlaw10_LedgerOpens.g k l0 ⟨a1_0, a1_1, a1_2, a1_3, a1_4, l1_5, a1_6⟩  ⟨a2_0, a2_1, a2_2, a2_3, a2_4, l2_5, a2_6⟩
theorem damsonlaw10_LedgerOpens.mono : ∀ b0 b1 b2 b3 b4 b5 b6 b7 b8 b9 b10 b11 b12 b13 b14 k, LeO (damsonlaw10_LedgerOpens.f k b0 b1 b2 b3 b4 b5 b6 b7 b8 b9 b10 b11 b12 b13 b14) (damsonlaw10_LedgerOpens.f (k + 1) b0 b1 b2 b3 b4 b5 b6 b7 b8 b9 b10 b11 b12 b13 b14) := by
  intro b0 b1 b2 b3 b4 b5 b6 b7 b8 b9 b10 b11 b12 b13 b14 k
  unfold damsonlaw10_LedgerOpens.f damsonlaw10_LedgerOpens.g damsonlaw10_LedgerOpens.b
  repeat' first
    | (with_reducible exact LeO.refl _)
    | apply damsonlaw10_live.mono
    | apply damsonref10_Few.mono
    | apply ledger_Get.mono
    | apply ledger_Same.mono
    | apply channel_Same.mono
    | apply ledger_Open.mono_g
    | (with_reducible refine LeO.ite ?_ ?_)
    | (with_reducible refine LeO.bind ?_ (fun _ => ?_))
set_option maxHeartbeats 16000000 in
set_option maxRecDepth 100000 in
theorem damsonlaw10_LedgerOpens.callsS (k : Nat) (A0 : Option Addr) (c0 : Nat) (l : List S25) (c : S25) (A1 : Option Addr) (c1 : Nat) (d : S25) (A2 : Option Addr) (c2 : Nat) (r : Bool) (w : World) (hr0 : Kd.C k25 w A0 l.length l) (hc0 : l.length ≤ c0) (hr1 : Kd.C k44 w A1 c.f5.length c.f5) (hc1 : c.f5.length ≤ c1) (hr2 : Kd.C k44 w A2 d.f5.length d.f5) (hc2 : d.f5.length ≤ c2) (h : damsonlaw10_LedgerOpens.g k l c d = some r) :
    Calls Try.prog 10 #[.slice A0 l.length c0, .agg #[.int .u64 c.f0, .int .u64 c.f1, .int .u64 c.f2, .int .u64 c.f3, .int .u64 c.f4, .slice A1 c.f5.length c1, .bool c.f6], .agg #[.int .u64 d.f0, .int .u64 d.f1, .int .u64 d.f2, .int .u64 d.f3, .int .u64 d.f4, .slice A2 d.f5.length c2, .bool d.f6]] w fun e w' => e = .returned (.bool r) ∧ Below w.heap.size w w' := by
  have HR0 := Aside0.mk hr0
  have HC0 := Aside0.mk hc0
  have HR1 := Aside0.mk hr1
  have HC1 := Aside0.mk hc1
  have HR2 := Aside0.mk hr2
  have HC2 := Aside0.mk hc2
  clear hr0 hc0 hr1 hc1 hr2 hc2
  have hal := (Below.refl w.heap.size w).alloc (Nat.le_refl _) (.cells #[.int .u64 c.f0, .int .u64 c.f1, .int .u64 c.f2, .int .u64 c.f3, .int .u64 c.f4, .slice A1 c.f5.length c1, .bool c.f6] 25)
  have HB := Aside0.mk (hal.alloc hal.size (.cells #[.int .u64 d.f0, .int .u64 d.f1, .int .u64 d.f2, .int .u64 d.f3, .int .u64 d.f4, .slice A2 d.f5.length c2, .bool d.f6] 25))
  have K1 := Aside0.mk (blk_below (blk_new w (.cells #[.int .u64 c.f0, .int .u64 c.f1, .int .u64 c.f2, .int .u64 c.f3, .int .u64 c.f4, .slice A1 c.f5.length c1, .bool c.f6] 25)) ((Below.refl (w.alloc (.cells #[.int .u64 c.f0, .int .u64 c.f1, .int .u64 c.f2, .int .u64 c.f3, .int .u64 c.f4, .slice A1 c.f5.length c1, .bool c.f6] 25)).heap.size (w.alloc (.cells #[.int .u64 c.f0, .int .u64 c.f1, .int .u64 c.f2, .int .u64 c.f3, .int .u64 c.f4, .slice A1 c.f5.length c1, .bool c.f6] 25))).alloc (Nat.le_refl _) (.cells #[.int .u64 d.f0, .int .u64 d.f1, .int .u64 d.f2, .int .u64 d.f3, .int .u64 d.f4, .slice A2 d.f5.length c2, .bool d.f6] 25)))
  have K2 := Aside0.mk (blk_new2 w (.cells #[.int .u64 c.f0, .int .u64 c.f1, .int .u64 c.f2, .int .u64 c.f3, .int .u64 c.f4, .slice A1 c.f5.length c1, .bool c.f6] 25) (.cells #[.int .u64 d.f0, .int .u64 d.f1, .int .u64 d.f2, .int .u64 d.f3, .int .u64 d.f4, .slice A2 d.f5.length c2, .bool d.f6] 25))
  clear hal
  unfold damsonlaw10_LedgerOpens.g at h
  obtain ⟨t1, h1, h_⟩ := Option.bind_eq_some_iff.mp h
  replace h := h_
  clear h_
  have HF1 := Aside0.mk h1
  clear h1
  try dsimp only at h
  by_cases hc : t1 = true
  case neg =>
    rw [if_neg hc] at h
    cases h
  rw [if_pos hc] at h
  subst hc
  obtain ⟨t2, h1, h_⟩ := Option.bind_eq_some_iff.mp h
  replace h := h_
  clear h_
  have HF2 := Aside0.mk h1
  clear h1
  try dsimp only at h
  by_cases hc : t2 = true
  case neg =>
    rw [if_neg hc] at h
    have hb_ : t2 = false := by simpa using hc
    subst hb_
    injection h with h
    subst h
    go_enter Try.func10, Try.ntmps10
    go_wp2_with (first | (go_at_call 44; refine (damsonlaw10_live.calls k _ _ HF1.out).mono ?_; rintro e w1 ⟨rfl, hb⟩; clear HF1; replace HB := Aside0.mk (below_then HB.out HB.out.size hb); replace K1 := Aside0.mk (blk_below K1.out hb); replace K2 := Aside0.mk (blk_below K2.out hb); clear hb) | (go_at_call 45; refine (damsonref10_Few.calls k A0 c0 l _ _ (Kd.C_below HR0.out HB.out) HC0.out HF2.out).mono ?_; rintro e w2 ⟨rfl, hb⟩; clear HF2; replace HB := Aside0.mk (below_then HB.out HB.out.size hb); replace K1 := Aside0.mk (blk_below K1.out hb); replace K2 := Aside0.mk (blk_below K2.out hb); obtain ⟨hy0, hy1, hy2, hy3, hy4, hy5, hy6, hy7, hy8, hy9, hy10, hy11, hy12, hy13⟩ := cz7_ K1.out; obtain ⟨hz0, hz1, hz2, hz3, hz4, hz5, hz6, hz7, hz8, hz9, hz10, hz11, hz12, hz13⟩ := cz7_ K2.out; clear hb))
    go_ret
    exact ⟨rfl, HB.out⟩
  rw [if_pos hc] at h
  subst hc
  by_cases hc : c.f5.length ≤ 20
  case neg =>
    rw [if_neg hc] at h
    have hc1 : decide ((20 : Int) < (c.f5.length : Int)) = true := decide_eq_true (by omega)
    have hc2 : decide (20 < c.f5.length) = true := decide_eq_true (by omega)
    clear hc
    injection h with h
    subst h
    go_enter Try.func10, Try.ntmps10
    go_wp2_with (first | (go_at_call 44; refine (damsonlaw10_live.calls k _ _ HF1.out).mono ?_; rintro e w1 ⟨rfl, hb⟩; clear HF1; replace HB := Aside0.mk (below_then HB.out HB.out.size hb); replace K1 := Aside0.mk (blk_below K1.out hb); replace K2 := Aside0.mk (blk_below K2.out hb); clear hb) | (go_at_call 45; refine (damsonref10_Few.calls k A0 c0 l _ _ (Kd.C_below HR0.out HB.out) HC0.out HF2.out).mono ?_; rintro e w2 ⟨rfl, hb⟩; clear HF2; replace HB := Aside0.mk (below_then HB.out HB.out.size hb); replace K1 := Aside0.mk (blk_below K1.out hb); replace K2 := Aside0.mk (blk_below K2.out hb); obtain ⟨hy0, hy1, hy2, hy3, hy4, hy5, hy6, hy7, hy8, hy9, hy10, hy11, hy12, hy13⟩ := cz7_ K1.out; obtain ⟨hz0, hz1, hz2, hz3, hz4, hz5, hz6, hz7, hz8, hz9, hz10, hz11, hz12, hz13⟩ := cz7_ K2.out; clear hb))
    go_ret
    exact ⟨rfl, HB.out⟩
  rw [if_pos hc] at h
  have hc1 : decide ((20 : Int) < (c.f5.length : Int)) = false := decide_eq_false (by omega)
  have hc2 : decide (20 < c.f5.length) = false := decide_eq_false (by omega)
  clear hc
  by_cases hc : d.f5.length ≤ 20
  case neg =>
    rw [if_neg hc] at h
    have hd1 : decide ((20 : Int) < (d.f5.length : Int)) = true := decide_eq_true (by omega)
    have hd2 : decide (20 < d.f5.length) = true := decide_eq_true (by omega)
    clear hc
    injection h with h
    subst h
    go_enter Try.func10, Try.ntmps10
    go_wp2_with (first | (go_at_call 44; refine (damsonlaw10_live.calls k _ _ HF1.out).mono ?_; rintro e w1 ⟨rfl, hb⟩; clear HF1; replace HB := Aside0.mk (below_then HB.out HB.out.size hb); replace K1 := Aside0.mk (blk_below K1.out hb); replace K2 := Aside0.mk (blk_below K2.out hb); clear hb) | (go_at_call 45; refine (damsonref10_Few.calls k A0 c0 l _ _ (Kd.C_below HR0.out HB.out) HC0.out HF2.out).mono ?_; rintro e w2 ⟨rfl, hb⟩; clear HF2; replace HB := Aside0.mk (below_then HB.out HB.out.size hb); replace K1 := Aside0.mk (blk_below K1.out hb); replace K2 := Aside0.mk (blk_below K2.out hb); obtain ⟨hy0, hy1, hy2, hy3, hy4, hy5, hy6, hy7, hy8, hy9, hy10, hy11, hy12, hy13⟩ := cz7_ K1.out; obtain ⟨hz0, hz1, hz2, hz3, hz4, hz5, hz6, hz7, hz8, hz9, hz10, hz11, hz12, hz13⟩ := cz7_ K2.out; clear hb))
    go_ret
    exact ⟨rfl, HB.out⟩
  rw [if_pos hc] at h
  have hd1 : decide ((20 : Int) < (d.f5.length : Int)) = false := decide_eq_false (by omega)
  have hd2 : decide (20 < d.f5.length) = false := decide_eq_false (by omega)
  clear hc
  by_cases hc : ¬ c.f0 = d.f0
  case neg =>
    rw [if_neg hc] at h
    have he1 : (c.f0 == d.f0) = true := beq_iff_eq.mpr (Decidable.of_not_not hc)
    clear hc
    injection h with h
    subst h
    go_enter Try.func10, Try.ntmps10
    go_wp2_with (first | (go_at_call 44; refine (damsonlaw10_live.calls k _ _ HF1.out).mono ?_; rintro e w1 ⟨rfl, hb⟩; clear HF1; replace HB := Aside0.mk (below_then HB.out HB.out.size hb); replace K1 := Aside0.mk (blk_below K1.out hb); replace K2 := Aside0.mk (blk_below K2.out hb); clear hb) | (go_at_call 45; refine (damsonref10_Few.calls k A0 c0 l _ _ (Kd.C_below HR0.out HB.out) HC0.out HF2.out).mono ?_; rintro e w2 ⟨rfl, hb⟩; clear HF2; replace HB := Aside0.mk (below_then HB.out HB.out.size hb); replace K1 := Aside0.mk (blk_below K1.out hb); replace K2 := Aside0.mk (blk_below K2.out hb); obtain ⟨hy0, hy1, hy2, hy3, hy4, hy5, hy6, hy7, hy8, hy9, hy10, hy11, hy12, hy13⟩ := cz7_ K1.out; obtain ⟨hz0, hz1, hz2, hz3, hz4, hz5, hz6, hz7, hz8, hz9, hz10, hz11, hz12, hz13⟩ := cz7_ K2.out; clear hb))
    go_ret
    exact ⟨rfl, HB.out⟩
  rw [if_pos hc] at h
  have he1 : (c.f0 == d.f0) = false := beq_eq_false_iff_ne.mpr hc
  clear hc
  obtain ⟨⟨la, ea⟩, h1, h_⟩ := Option.bind_eq_some_iff.mp h
  replace h := h_
  clear h_
  have HFa := Aside0.mk h1
  clear h1
  try dsimp only at h
  obtain ⟨⟨lb, eb⟩, h1, h_⟩ := Option.bind_eq_some_iff.mp h
  replace h := h_
  clear h_
  have HFb := Aside0.mk h1
  clear h1
  try dsimp only at h
  by_cases hc : ea = 0
  case neg =>
    rw [if_neg hc] at h
    have he2 : (ea != 0) = true := bne_iff_ne.mpr hc
    clear hc
    injection h with h
    subst h
    go_enter Try.func10, Try.ntmps10
    go_wp2_with (first | (go_at_call 44; refine (damsonlaw10_live.calls k _ _ HF1.out).mono ?_; rintro e w1 ⟨rfl, hb⟩; clear HF1; replace HB := Aside0.mk (below_then HB.out HB.out.size hb); replace K1 := Aside0.mk (blk_below K1.out hb); replace K2 := Aside0.mk (blk_below K2.out hb); clear hb) | (go_at_call 45; refine (damsonref10_Few.calls k A0 c0 l _ _ (Kd.C_below HR0.out HB.out) HC0.out HF2.out).mono ?_; rintro e w2 ⟨rfl, hb⟩; clear HF2; replace HB := Aside0.mk (below_then HB.out HB.out.size hb); replace K1 := Aside0.mk (blk_below K1.out hb); replace K2 := Aside0.mk (blk_below K2.out hb); obtain ⟨hy0, hy1, hy2, hy3, hy4, hy5, hy6, hy7, hy8, hy9, hy10, hy11, hy12, hy13⟩ := cz7_ K1.out; obtain ⟨hz0, hz1, hz2, hz3, hz4, hz5, hz6, hz7, hz8, hz9, hz10, hz11, hz12, hz13⟩ := cz7_ K2.out; clear hb) | (go_at_call 46; clear hy0 hy1 hy2 hy3 hy4 hy5 hy6 hy7 hy8 hy9 hy10 hy11 hy12 hy13; clear hz0 hz1 hz2 hz3 hz4 hz5 hz6 hz7 hz8 hz9 hz10 hz11 hz12 hz13; refine (ledger_Open.callsS k A0 c0 l c A1 c1 la ea _ (Kd.C_below HR0.out HB.out) HC0.out (Kd.C_below HR1.out HB.out) HC1.out HFa.out).mono ?_; rintro e w3 ⟨v, rfl, ho, hb⟩; clear HFa; replace HB := Aside0.mk (below_then HB.out HB.out.size hb); replace K1 := Aside0.mk (blk_below K1.out hb); replace K2 := Aside0.mk (blk_below K2.out hb); obtain ⟨Aa, ca, hv, hcl, hC⟩ := ho.reads; subst hv; have HCa := Aside0.mk hcl; have HRa := Aside0.mk hC; clear hcl hC; obtain ⟨hy0, hy1, hy2, hy3, hy4, hy5, hy6, hy7, hy8, hy9, hy10, hy11, hy12, hy13⟩ := cz7_ K1.out; obtain ⟨hz0, hz1, hz2, hz3, hz4, hz5, hz6, hz7, hz8, hz9, hz10, hz11, hz12, hz13⟩ := cz7_ K2.out; clear hb ho) | (go_at_call 46; clear hy0 hy1 hy2 hy3 hy4 hy5 hy6 hy7 hy8 hy9 hy10 hy11 hy12 hy13; clear hz0 hz1 hz2 hz3 hz4 hz5 hz6 hz7 hz8 hz9 hz10 hz11 hz12 hz13; refine (ledger_Open.callsS k A0 c0 l d A2 c2 lb eb _ (Kd.C_below HR0.out HB.out) HC0.out (Kd.C_below HR2.out HB.out) HC2.out HFb.out).mono ?_; rintro e w4 ⟨v, rfl, ho, hb⟩; clear HFb; replace HB := Aside0.mk (below_then HB.out HB.out.size hb); replace K1 := Aside0.mk (blk_below K1.out hb); replace K2 := Aside0.mk (blk_below K2.out hb); replace HRa := Aside0.mk (Kd.C_below HRa.out hb); obtain ⟨Ab, cb, hv, hcl, hC⟩ := ho.reads; subst hv; have HCb := Aside0.mk hcl; have HRb := Aside0.mk hC; clear hcl hC; obtain ⟨hy0, hy1, hy2, hy3, hy4, hy5, hy6, hy7, hy8, hy9, hy10, hy11, hy12, hy13⟩ := cz7_ K1.out; obtain ⟨hz0, hz1, hz2, hz3, hz4, hz5, hz6, hz7, hz8, hz9, hz10, hz11, hz12, hz13⟩ := cz7_ K2.out; clear hb ho))
    go_ret
    exact ⟨rfl, HB.out⟩
  rw [if_pos hc] at h
  subst hc
  by_cases hc : eb = 0
  case neg =>
    rw [if_neg hc] at h
    have he2 : (eb != 0) = true := bne_iff_ne.mpr hc
    clear hc
    injection h with h
    subst h
    go_enter Try.func10, Try.ntmps10
    go_wp2_with (first | (go_at_call 44; refine (damsonlaw10_live.calls k _ _ HF1.out).mono ?_; rintro e w1 ⟨rfl, hb⟩; clear HF1; replace HB := Aside0.mk (below_then HB.out HB.out.size hb); replace K1 := Aside0.mk (blk_below K1.out hb); replace K2 := Aside0.mk (blk_below K2.out hb); clear hb) | (go_at_call 45; refine (damsonref10_Few.calls k A0 c0 l _ _ (Kd.C_below HR0.out HB.out) HC0.out HF2.out).mono ?_; rintro e w2 ⟨rfl, hb⟩; clear HF2; replace HB := Aside0.mk (below_then HB.out HB.out.size hb); replace K1 := Aside0.mk (blk_below K1.out hb); replace K2 := Aside0.mk (blk_below K2.out hb); obtain ⟨hy0, hy1, hy2, hy3, hy4, hy5, hy6, hy7, hy8, hy9, hy10, hy11, hy12, hy13⟩ := cz7_ K1.out; obtain ⟨hz0, hz1, hz2, hz3, hz4, hz5, hz6, hz7, hz8, hz9, hz10, hz11, hz12, hz13⟩ := cz7_ K2.out; clear hb) | (go_at_call 46; clear hy0 hy1 hy2 hy3 hy4 hy5 hy6 hy7 hy8 hy9 hy10 hy11 hy12 hy13; clear hz0 hz1 hz2 hz3 hz4 hz5 hz6 hz7 hz8 hz9 hz10 hz11 hz12 hz13; refine (ledger_Open.callsS k A0 c0 l c A1 c1 la 0 _ (Kd.C_below HR0.out HB.out) HC0.out (Kd.C_below HR1.out HB.out) HC1.out HFa.out).mono ?_; rintro e w3 ⟨v, rfl, ho, hb⟩; clear HFa; replace HB := Aside0.mk (below_then HB.out HB.out.size hb); replace K1 := Aside0.mk (blk_below K1.out hb); replace K2 := Aside0.mk (blk_below K2.out hb); obtain ⟨Aa, ca, hv, hcl, hC⟩ := ho.reads; subst hv; have HCa := Aside0.mk hcl; have HRa := Aside0.mk hC; clear hcl hC; obtain ⟨hy0, hy1, hy2, hy3, hy4, hy5, hy6, hy7, hy8, hy9, hy10, hy11, hy12, hy13⟩ := cz7_ K1.out; obtain ⟨hz0, hz1, hz2, hz3, hz4, hz5, hz6, hz7, hz8, hz9, hz10, hz11, hz12, hz13⟩ := cz7_ K2.out; clear hb ho) | (go_at_call 46; clear hy0 hy1 hy2 hy3 hy4 hy5 hy6 hy7 hy8 hy9 hy10 hy11 hy12 hy13; clear hz0 hz1 hz2 hz3 hz4 hz5 hz6 hz7 hz8 hz9 hz10 hz11 hz12 hz13; refine (ledger_Open.callsS k A0 c0 l d A2 c2 lb eb _ (Kd.C_below HR0.out HB.out) HC0.out (Kd.C_below HR2.out HB.out) HC2.out HFb.out).mono ?_; rintro e w4 ⟨v, rfl, ho, hb⟩; clear HFb; replace HB := Aside0.mk (below_then HB.out HB.out.size hb); replace K1 := Aside0.mk (blk_below K1.out hb); replace K2 := Aside0.mk (blk_below K2.out hb); replace HRa := Aside0.mk (Kd.C_below HRa.out hb); obtain ⟨Ab, cb, hv, hcl, hC⟩ := ho.reads; subst hv; have HCb := Aside0.mk hcl; have HRb := Aside0.mk hC; clear hcl hC; obtain ⟨hy0, hy1, hy2, hy3, hy4, hy5, hy6, hy7, hy8, hy9, hy10, hy11, hy12, hy13⟩ := cz7_ K1.out; obtain ⟨hz0, hz1, hz2, hz3, hz4, hz5, hz6, hz7, hz8, hz9, hz10, hz11, hz12, hz13⟩ := cz7_ K2.out; clear hb ho))
    go_ret
    exact ⟨rfl, HB.out⟩
  rw [if_pos hc] at h
  subst hc
  unfold damsonlaw10_LedgerOpens.b at h
  obtain ⟨⟨lx, ex⟩, h1, h_⟩ := Option.bind_eq_some_iff.mp h
  replace h := h_
  clear h_
  have HFx := Aside0.mk h1
  clear h1
  try dsimp only at h
  obtain ⟨⟨ly, ey⟩, h1, h_⟩ := Option.bind_eq_some_iff.mp h
  replace h := h_
  clear h_
  have HFy := Aside0.mk h1
  clear h1
  try dsimp only at h
  obtain ⟨⟨t0, t1, t2, t3, t4, t5, t6, te⟩, h1, h_⟩ := Option.bind_eq_some_iff.mp h
  replace h := h_
  clear h_
  have HFt := Aside0.mk h1
  clear h1
  try dsimp only at h
  obtain ⟨m, h1, h_⟩ := Option.bind_eq_some_iff.mp h
  replace h := h_
  clear h_
  have HFm := Aside0.mk h1
  clear h1
  try dsimp only at h
  obtain ⟨q, h1, h_⟩ := Option.bind_eq_some_iff.mp h
  replace h := h_
  clear h_
  have HFq := Aside0.mk h1
  clear h1
  try dsimp only at h
  by_cases hc : ex = ey ∧ m = true ∧ (ex = 0 ∨ ex = 7 ∨ ex = 8) ∧ te = 0 ∧ q = true
  case neg =>
    rw [if_neg hc] at h
    cases h
  rw [if_pos hc] at h
  injection h with h
  subst h
  obtain ⟨rfl, rfl, hx, rfl, rfl⟩ := hc
  rcases hx with rfl | rfl | rfl
  · go_enter Try.func10, Try.ntmps10
    go_wp2_with (first | (go_at_call 44; refine (damsonlaw10_live.calls k _ _ HF1.out).mono ?_; rintro e w1 ⟨rfl, hb⟩; clear HF1; replace HB := Aside0.mk (below_then HB.out HB.out.size hb); replace K1 := Aside0.mk (blk_below K1.out hb); replace K2 := Aside0.mk (blk_below K2.out hb); clear hb) | (go_at_call 45; refine (damsonref10_Few.calls k A0 c0 l _ _ (Kd.C_below HR0.out HB.out) HC0.out HF2.out).mono ?_; rintro e w2 ⟨rfl, hb⟩; clear HF2; replace HB := Aside0.mk (below_then HB.out HB.out.size hb); replace K1 := Aside0.mk (blk_below K1.out hb); replace K2 := Aside0.mk (blk_below K2.out hb); obtain ⟨hy0, hy1, hy2, hy3, hy4, hy5, hy6, hy7, hy8, hy9, hy10, hy11, hy12, hy13⟩ := cz7_ K1.out; obtain ⟨hz0, hz1, hz2, hz3, hz4, hz5, hz6, hz7, hz8, hz9, hz10, hz11, hz12, hz13⟩ := cz7_ K2.out; clear hb) | (go_at_call 46; clear hy0 hy1 hy2 hy3 hy4 hy5 hy6 hy7 hy8 hy9 hy10 hy11 hy12 hy13; clear hz0 hz1 hz2 hz3 hz4 hz5 hz6 hz7 hz8 hz9 hz10 hz11 hz12 hz13; refine (ledger_Open.callsS k A0 c0 l c A1 c1 la 0 _ (Kd.C_below HR0.out HB.out) HC0.out (Kd.C_below HR1.out HB.out) HC1.out HFa.out).mono ?_; rintro e w3 ⟨v, rfl, ho, hb⟩; clear HFa; replace HB := Aside0.mk (below_then HB.out HB.out.size hb); replace K1 := Aside0.mk (blk_below K1.out hb); replace K2 := Aside0.mk (blk_below K2.out hb); obtain ⟨Aa, ca, hv, hcl, hC⟩ := ho.reads; subst hv; have HCa := Aside0.mk hcl; have HRa := Aside0.mk hC; clear hcl hC; obtain ⟨hy0, hy1, hy2, hy3, hy4, hy5, hy6, hy7, hy8, hy9, hy10, hy11, hy12, hy13⟩ := cz7_ K1.out; obtain ⟨hz0, hz1, hz2, hz3, hz4, hz5, hz6, hz7, hz8, hz9, hz10, hz11, hz12, hz13⟩ := cz7_ K2.out; clear hb ho) | (go_at_call 46; clear hy0 hy1 hy2 hy3 hy4 hy5 hy6 hy7 hy8 hy9 hy10 hy11 hy12 hy13; clear hz0 hz1 hz2 hz3 hz4 hz5 hz6 hz7 hz8 hz9 hz10 hz11 hz12 hz13; refine (ledger_Open.callsS k A0 c0 l d A2 c2 lb 0 _ (Kd.C_below HR0.out HB.out) HC0.out (Kd.C_below HR2.out HB.out) HC2.out HFb.out).mono ?_; rintro e w4 ⟨v, rfl, ho, hb⟩; clear HFb; replace HB := Aside0.mk (below_then HB.out HB.out.size hb); replace K1 := Aside0.mk (blk_below K1.out hb); replace K2 := Aside0.mk (blk_below K2.out hb); replace HRa := Aside0.mk (Kd.C_below HRa.out hb); obtain ⟨Ab, cb, hv, hcl, hC⟩ := ho.reads; subst hv; have HCb := Aside0.mk hcl; have HRb := Aside0.mk hC; clear hcl hC; obtain ⟨hy0, hy1, hy2, hy3, hy4, hy5, hy6, hy7, hy8, hy9, hy10, hy11, hy12, hy13⟩ := cz7_ K1.out; obtain ⟨hz0, hz1, hz2, hz3, hz4, hz5, hz6, hz7, hz8, hz9, hz10, hz11, hz12, hz13⟩ := cz7_ K2.out; clear hb ho) | (go_at_call 46; clear hy0 hy1 hy2 hy3 hy4 hy5 hy6 hy7 hy8 hy9 hy10 hy11 hy12 hy13; clear hz0 hz1 hz2 hz3 hz4 hz5 hz6 hz7 hz8 hz9 hz10 hz11 hz12 hz13; refine (ledger_Open.callsS k Aa ca la d A2 c2 lx 0 _ HRa.out HCa.out (Kd.C_below HR2.out HB.out) HC2.out HFx.out).mono ?_; rintro e w5 ⟨v, rfl, ho, hb⟩; clear HFx; replace HB := Aside0.mk (below_then HB.out HB.out.size hb); replace K1 := Aside0.mk (blk_below K1.out hb); replace K2 := Aside0.mk (blk_below K2.out hb); replace HRa := Aside0.mk (Kd.C_below HRa.out hb); replace HRb := Aside0.mk (Kd.C_below HRb.out hb); obtain ⟨Ax, cx, hv, hcl, hC⟩ := ho.reads; subst hv; have HCx := Aside0.mk hcl; have HRx := Aside0.mk hC; clear hcl hC; obtain ⟨hy0, hy1, hy2, hy3, hy4, hy5, hy6, hy7, hy8, hy9, hy10, hy11, hy12, hy13⟩ := cz7_ K1.out; obtain ⟨hz0, hz1, hz2, hz3, hz4, hz5, hz6, hz7, hz8, hz9, hz10, hz11, hz12, hz13⟩ := cz7_ K2.out; clear hb ho) | (go_at_call 46; clear hy0 hy1 hy2 hy3 hy4 hy5 hy6 hy7 hy8 hy9 hy10 hy11 hy12 hy13; clear hz0 hz1 hz2 hz3 hz4 hz5 hz6 hz7 hz8 hz9 hz10 hz11 hz12 hz13; refine (ledger_Open.callsS k Ab cb lb c A1 c1 ly 0 _ HRb.out HCb.out (Kd.C_below HR1.out HB.out) HC1.out HFy.out).mono ?_; rintro e w6 ⟨v, rfl, ho, hb⟩; clear HFy; replace HB := Aside0.mk (below_then HB.out HB.out.size hb); replace K1 := Aside0.mk (blk_below K1.out hb); replace K2 := Aside0.mk (blk_below K2.out hb); replace HRa := Aside0.mk (Kd.C_below HRa.out hb); replace HRb := Aside0.mk (Kd.C_below HRb.out hb); replace HRx := Aside0.mk (Kd.C_below HRx.out hb); obtain ⟨Ay, cy, hv, hcl, hC⟩ := ho.reads; subst hv; have HCy := Aside0.mk hcl; have HRy := Aside0.mk hC; clear hcl hC; obtain ⟨hy0, hy1, hy2, hy3, hy4, hy5, hy6, hy7, hy8, hy9, hy10, hy11, hy12, hy13⟩ := cz7_ K1.out; obtain ⟨hz0, hz1, hz2, hz3, hz4, hz5, hz6, hz7, hz8, hz9, hz10, hz11, hz12, hz13⟩ := cz7_ K2.out; clear hb ho) | (go_at_call 47; clear hy0 hy1 hy2 hy3 hy4 hy5 hy6 hy7 hy8 hy9 hy10 hy11 hy12 hy13; clear hz0 hz1 hz2 hz3 hz4 hz5 hz6 hz7 hz8 hz9 hz10 hz11 hz12 hz13; refine (ledger_Get.calls k Aa ca la c.f0 t0 t1 t2 t3 t4 t5 t6 0 _ HRa.out HCa.out HFt.out).mono ?_; rintro e w7 ⟨v, rfl, ho, hb⟩; clear HFt; replace HB := Aside0.mk (below_then HB.out HB.out.size hb); replace K1 := Aside0.mk (blk_below K1.out hb); replace K2 := Aside0.mk (blk_below K2.out hb); replace HRa := Aside0.mk (Kd.C_below HRa.out hb); replace HRb := Aside0.mk (Kd.C_below HRb.out hb); replace HRx := Aside0.mk (Kd.C_below HRx.out hb); replace HRy := Aside0.mk (Kd.C_below HRy.out hb); obtain ⟨At, ct, hv⟩ := Kd.R_slice ho; subst hv; have HCt := Aside0.mk (Kd.R_reads' ho).2.1; have HRt := Aside0.mk (Kd.R_reads' ho).2.2; clear hb ho) | (go_at_call 48; have hal := (Below.refl w7.heap.size w7).alloc (Nat.le_refl _) (.cells #[.int .u64 t0, .int .u64 t1, .int .u64 t2, .int .u64 t3, .int .u64 t4, .slice At t5.length ct, .bool t6] 25); replace HB := Aside0.mk (below_then HB.out HB.out.size hal); replace K1 := Aside0.mk (blk_below K1.out hal); replace K2 := Aside0.mk (blk_below K2.out hal); replace HRa := Aside0.mk (Kd.C_below HRa.out hal); replace HRb := Aside0.mk (Kd.C_below HRb.out hal); replace HRx := Aside0.mk (Kd.C_below HRx.out hal); replace HRy := Aside0.mk (Kd.C_below HRy.out hal); replace HRt := Aside0.mk (Kd.C_below HRt.out hal); have Kt := Aside0.mk (blk_new w7 (.cells #[.int .u64 t0, .int .u64 t1, .int .u64 t2, .int .u64 t3, .int .u64 t4, .slice At t5.length ct, .bool t6] 25)); clear hal; refine (ledger_Same.calls k Ax cx lx Ay cy ly true _ HRx.out HCx.out HRy.out HCy.out HFm.out).mono ?_; rintro e w8 ⟨rfl, hb⟩; clear HFm; replace HB := Aside0.mk (below_then HB.out HB.out.size hb); replace K1 := Aside0.mk (blk_below K1.out hb); replace K2 := Aside0.mk (blk_below K2.out hb); replace HRa := Aside0.mk (Kd.C_below HRa.out hb); replace HRb := Aside0.mk (Kd.C_below HRb.out hb); replace HRx := Aside0.mk (Kd.C_below HRx.out hb); replace HRy := Aside0.mk (Kd.C_below HRy.out hb); replace HRt := Aside0.mk (Kd.C_below HRt.out hb); replace Kt := Aside0.mk (blk_below Kt.out hb); obtain ⟨hy0, hy1, hy2, hy3, hy4, hy5, hy6, hy7, hy8, hy9, hy10, hy11, hy12, hy13⟩ := cz7_ K1.out; obtain ⟨hz0, hz1, hz2, hz3, hz4, hz5, hz6, hz7, hz8, hz9, hz10, hz11, hz12, hz13⟩ := cz7_ Kt.out; clear hb) | (go_at_call 26; clear hy0 hy1 hy2 hy3 hy4 hy5 hy6 hy7 hy8 hy9 hy10 hy11 hy12 hy13; clear hz0 hz1 hz2 hz3 hz4 hz5 hz6 hz7 hz8 hz9 hz10 hz11 hz12 hz13; refine (channel_Same.calls k t0 t1 t2 t3 t4 At ct t5 t6 c.f0 c.f1 c.f2 c.f3 c.f4 A1 c1 c.f5 c.f6 true _ HRt.out HCt.out (Kd.C_below HR1.out HB.out) HC1.out HFq.out).mono ?_; rintro e w9 ⟨rfl, hb⟩; clear HFq; replace HB := Aside0.mk (below_then HB.out HB.out.size hb); replace K1 := Aside0.mk (blk_below K1.out hb); replace K2 := Aside0.mk (blk_below K2.out hb); replace HRa := Aside0.mk (Kd.C_below HRa.out hb); replace HRb := Aside0.mk (Kd.C_below HRb.out hb); replace HRx := Aside0.mk (Kd.C_below HRx.out hb); replace HRy := Aside0.mk (Kd.C_below HRy.out hb); replace HRt := Aside0.mk (Kd.C_below HRt.out hb); replace Kt := Aside0.mk (blk_below Kt.out hb); clear hb))
    go_ret
    exact ⟨rfl, HB.out⟩
  · go_enter Try.func10, Try.ntmps10
    go_wp2_with (first | (go_at_call 44; refine (damsonlaw10_live.calls k _ _ HF1.out).mono ?_; rintro e w1 ⟨rfl, hb⟩; clear HF1; replace HB := Aside0.mk (below_then HB.out HB.out.size hb); replace K1 := Aside0.mk (blk_below K1.out hb); replace K2 := Aside0.mk (blk_below K2.out hb); clear hb) | (go_at_call 45; refine (damsonref10_Few.calls k A0 c0 l _ _ (Kd.C_below HR0.out HB.out) HC0.out HF2.out).mono ?_; rintro e w2 ⟨rfl, hb⟩; clear HF2; replace HB := Aside0.mk (below_then HB.out HB.out.size hb); replace K1 := Aside0.mk (blk_below K1.out hb); replace K2 := Aside0.mk (blk_below K2.out hb); obtain ⟨hy0, hy1, hy2, hy3, hy4, hy5, hy6, hy7, hy8, hy9, hy10, hy11, hy12, hy13⟩ := cz7_ K1.out; obtain ⟨hz0, hz1, hz2, hz3, hz4, hz5, hz6, hz7, hz8, hz9, hz10, hz11, hz12, hz13⟩ := cz7_ K2.out; clear hb) | (go_at_call 46; clear hy0 hy1 hy2 hy3 hy4 hy5 hy6 hy7 hy8 hy9 hy10 hy11 hy12 hy13; clear hz0 hz1 hz2 hz3 hz4 hz5 hz6 hz7 hz8 hz9 hz10 hz11 hz12 hz13; refine (ledger_Open.callsS k A0 c0 l c A1 c1 la 0 _ (Kd.C_below HR0.out HB.out) HC0.out (Kd.C_below HR1.out HB.out) HC1.out HFa.out).mono ?_; rintro e w3 ⟨v, rfl, ho, hb⟩; clear HFa; replace HB := Aside0.mk (below_then HB.out HB.out.size hb); replace K1 := Aside0.mk (blk_below K1.out hb); replace K2 := Aside0.mk (blk_below K2.out hb); obtain ⟨Aa, ca, hv, hcl, hC⟩ := ho.reads; subst hv; have HCa := Aside0.mk hcl; have HRa := Aside0.mk hC; clear hcl hC; obtain ⟨hy0, hy1, hy2, hy3, hy4, hy5, hy6, hy7, hy8, hy9, hy10, hy11, hy12, hy13⟩ := cz7_ K1.out; obtain ⟨hz0, hz1, hz2, hz3, hz4, hz5, hz6, hz7, hz8, hz9, hz10, hz11, hz12, hz13⟩ := cz7_ K2.out; clear hb ho) | (go_at_call 46; clear hy0 hy1 hy2 hy3 hy4 hy5 hy6 hy7 hy8 hy9 hy10 hy11 hy12 hy13; clear hz0 hz1 hz2 hz3 hz4 hz5 hz6 hz7 hz8 hz9 hz10 hz11 hz12 hz13; refine (ledger_Open.callsS k A0 c0 l d A2 c2 lb 0 _ (Kd.C_below HR0.out HB.out) HC0.out (Kd.C_below HR2.out HB.out) HC2.out HFb.out).mono ?_; rintro e w4 ⟨v, rfl, ho, hb⟩; clear HFb; replace HB := Aside0.mk (below_then HB.out HB.out.size hb); replace K1 := Aside0.mk (blk_below K1.out hb); replace K2 := Aside0.mk (blk_below K2.out hb); replace HRa := Aside0.mk (Kd.C_below HRa.out hb); obtain ⟨Ab, cb, hv, hcl, hC⟩ := ho.reads; subst hv; have HCb := Aside0.mk hcl; have HRb := Aside0.mk hC; clear hcl hC; obtain ⟨hy0, hy1, hy2, hy3, hy4, hy5, hy6, hy7, hy8, hy9, hy10, hy11, hy12, hy13⟩ := cz7_ K1.out; obtain ⟨hz0, hz1, hz2, hz3, hz4, hz5, hz6, hz7, hz8, hz9, hz10, hz11, hz12, hz13⟩ := cz7_ K2.out; clear hb ho) | (go_at_call 46; clear hy0 hy1 hy2 hy3 hy4 hy5 hy6 hy7 hy8 hy9 hy10 hy11 hy12 hy13; clear hz0 hz1 hz2 hz3 hz4 hz5 hz6 hz7 hz8 hz9 hz10 hz11 hz12 hz13; refine (ledger_Open.callsS k Aa ca la d A2 c2 lx 7 _ HRa.out HCa.out (Kd.C_below HR2.out HB.out) HC2.out HFx.out).mono ?_; rintro e w5 ⟨v, rfl, ho, hb⟩; clear HFx; replace HB := Aside0.mk (below_then HB.out HB.out.size hb); replace K1 := Aside0.mk (blk_below K1.out hb); replace K2 := Aside0.mk (blk_below K2.out hb); replace HRa := Aside0.mk (Kd.C_below HRa.out hb); replace HRb := Aside0.mk (Kd.C_below HRb.out hb); obtain ⟨Ax, cx, hv, hcl, hC⟩ := ho.reads; subst hv; have HCx := Aside0.mk hcl; have HRx := Aside0.mk hC; clear hcl hC; obtain ⟨hy0, hy1, hy2, hy3, hy4, hy5, hy6, hy7, hy8, hy9, hy10, hy11, hy12, hy13⟩ := cz7_ K1.out; obtain ⟨hz0, hz1, hz2, hz3, hz4, hz5, hz6, hz7, hz8, hz9, hz10, hz11, hz12, hz13⟩ := cz7_ K2.out; clear hb ho) | (go_at_call 46; clear hy0 hy1 hy2 hy3 hy4 hy5 hy6 hy7 hy8 hy9 hy10 hy11 hy12 hy13; clear hz0 hz1 hz2 hz3 hz4 hz5 hz6 hz7 hz8 hz9 hz10 hz11 hz12 hz13; refine (ledger_Open.callsS k Ab cb lb c A1 c1 ly 7 _ HRb.out HCb.out (Kd.C_below HR1.out HB.out) HC1.out HFy.out).mono ?_; rintro e w6 ⟨v, rfl, ho, hb⟩; clear HFy; replace HB := Aside0.mk (below_then HB.out HB.out.size hb); replace K1 := Aside0.mk (blk_below K1.out hb); replace K2 := Aside0.mk (blk_below K2.out hb); replace HRa := Aside0.mk (Kd.C_below HRa.out hb); replace HRb := Aside0.mk (Kd.C_below HRb.out hb); replace HRx := Aside0.mk (Kd.C_below HRx.out hb); obtain ⟨Ay, cy, hv, hcl, hC⟩ := ho.reads; subst hv; have HCy := Aside0.mk hcl; have HRy := Aside0.mk hC; clear hcl hC; obtain ⟨hy0, hy1, hy2, hy3, hy4, hy5, hy6, hy7, hy8, hy9, hy10, hy11, hy12, hy13⟩ := cz7_ K1.out; obtain ⟨hz0, hz1, hz2, hz3, hz4, hz5, hz6, hz7, hz8, hz9, hz10, hz11, hz12, hz13⟩ := cz7_ K2.out; clear hb ho) | (go_at_call 47; clear hy0 hy1 hy2 hy3 hy4 hy5 hy6 hy7 hy8 hy9 hy10 hy11 hy12 hy13; clear hz0 hz1 hz2 hz3 hz4 hz5 hz6 hz7 hz8 hz9 hz10 hz11 hz12 hz13; refine (ledger_Get.calls k Aa ca la c.f0 t0 t1 t2 t3 t4 t5 t6 0 _ HRa.out HCa.out HFt.out).mono ?_; rintro e w7 ⟨v, rfl, ho, hb⟩; clear HFt; replace HB := Aside0.mk (below_then HB.out HB.out.size hb); replace K1 := Aside0.mk (blk_below K1.out hb); replace K2 := Aside0.mk (blk_below K2.out hb); replace HRa := Aside0.mk (Kd.C_below HRa.out hb); replace HRb := Aside0.mk (Kd.C_below HRb.out hb); replace HRx := Aside0.mk (Kd.C_below HRx.out hb); replace HRy := Aside0.mk (Kd.C_below HRy.out hb); obtain ⟨At, ct, hv⟩ := Kd.R_slice ho; subst hv; have HCt := Aside0.mk (Kd.R_reads' ho).2.1; have HRt := Aside0.mk (Kd.R_reads' ho).2.2; clear hb ho) | (go_at_call 48; have hal := (Below.refl w7.heap.size w7).alloc (Nat.le_refl _) (.cells #[.int .u64 t0, .int .u64 t1, .int .u64 t2, .int .u64 t3, .int .u64 t4, .slice At t5.length ct, .bool t6] 25); replace HB := Aside0.mk (below_then HB.out HB.out.size hal); replace K1 := Aside0.mk (blk_below K1.out hal); replace K2 := Aside0.mk (blk_below K2.out hal); replace HRa := Aside0.mk (Kd.C_below HRa.out hal); replace HRb := Aside0.mk (Kd.C_below HRb.out hal); replace HRx := Aside0.mk (Kd.C_below HRx.out hal); replace HRy := Aside0.mk (Kd.C_below HRy.out hal); replace HRt := Aside0.mk (Kd.C_below HRt.out hal); have Kt := Aside0.mk (blk_new w7 (.cells #[.int .u64 t0, .int .u64 t1, .int .u64 t2, .int .u64 t3, .int .u64 t4, .slice At t5.length ct, .bool t6] 25)); clear hal; refine (ledger_Same.calls k Ax cx lx Ay cy ly true _ HRx.out HCx.out HRy.out HCy.out HFm.out).mono ?_; rintro e w8 ⟨rfl, hb⟩; clear HFm; replace HB := Aside0.mk (below_then HB.out HB.out.size hb); replace K1 := Aside0.mk (blk_below K1.out hb); replace K2 := Aside0.mk (blk_below K2.out hb); replace HRa := Aside0.mk (Kd.C_below HRa.out hb); replace HRb := Aside0.mk (Kd.C_below HRb.out hb); replace HRx := Aside0.mk (Kd.C_below HRx.out hb); replace HRy := Aside0.mk (Kd.C_below HRy.out hb); replace HRt := Aside0.mk (Kd.C_below HRt.out hb); replace Kt := Aside0.mk (blk_below Kt.out hb); obtain ⟨hy0, hy1, hy2, hy3, hy4, hy5, hy6, hy7, hy8, hy9, hy10, hy11, hy12, hy13⟩ := cz7_ K1.out; obtain ⟨hz0, hz1, hz2, hz3, hz4, hz5, hz6, hz7, hz8, hz9, hz10, hz11, hz12, hz13⟩ := cz7_ Kt.out; clear hb) | (go_at_call 26; clear hy0 hy1 hy2 hy3 hy4 hy5 hy6 hy7 hy8 hy9 hy10 hy11 hy12 hy13; clear hz0 hz1 hz2 hz3 hz4 hz5 hz6 hz7 hz8 hz9 hz10 hz11 hz12 hz13; refine (channel_Same.calls k t0 t1 t2 t3 t4 At ct t5 t6 c.f0 c.f1 c.f2 c.f3 c.f4 A1 c1 c.f5 c.f6 true _ HRt.out HCt.out (Kd.C_below HR1.out HB.out) HC1.out HFq.out).mono ?_; rintro e w9 ⟨rfl, hb⟩; clear HFq; replace HB := Aside0.mk (below_then HB.out HB.out.size hb); replace K1 := Aside0.mk (blk_below K1.out hb); replace K2 := Aside0.mk (blk_below K2.out hb); replace HRa := Aside0.mk (Kd.C_below HRa.out hb); replace HRb := Aside0.mk (Kd.C_below HRb.out hb); replace HRx := Aside0.mk (Kd.C_below HRx.out hb); replace HRy := Aside0.mk (Kd.C_below HRy.out hb); replace HRt := Aside0.mk (Kd.C_below HRt.out hb); replace Kt := Aside0.mk (blk_below Kt.out hb); clear hb))
    go_ret
    exact ⟨rfl, HB.out⟩
  · go_enter Try.func10, Try.ntmps10
    go_wp2_with (first | (go_at_call 44; refine (damsonlaw10_live.calls k _ _ HF1.out).mono ?_; rintro e w1 ⟨rfl, hb⟩; clear HF1; replace HB := Aside0.mk (below_then HB.out HB.out.size hb); replace K1 := Aside0.mk (blk_below K1.out hb); replace K2 := Aside0.mk (blk_below K2.out hb); clear hb) | (go_at_call 45; refine (damsonref10_Few.calls k A0 c0 l _ _ (Kd.C_below HR0.out HB.out) HC0.out HF2.out).mono ?_; rintro e w2 ⟨rfl, hb⟩; clear HF2; replace HB := Aside0.mk (below_then HB.out HB.out.size hb); replace K1 := Aside0.mk (blk_below K1.out hb); replace K2 := Aside0.mk (blk_below K2.out hb); obtain ⟨hy0, hy1, hy2, hy3, hy4, hy5, hy6, hy7, hy8, hy9, hy10, hy11, hy12, hy13⟩ := cz7_ K1.out; obtain ⟨hz0, hz1, hz2, hz3, hz4, hz5, hz6, hz7, hz8, hz9, hz10, hz11, hz12, hz13⟩ := cz7_ K2.out; clear hb) | (go_at_call 46; clear hy0 hy1 hy2 hy3 hy4 hy5 hy6 hy7 hy8 hy9 hy10 hy11 hy12 hy13; clear hz0 hz1 hz2 hz3 hz4 hz5 hz6 hz7 hz8 hz9 hz10 hz11 hz12 hz13; refine (ledger_Open.callsS k A0 c0 l c A1 c1 la 0 _ (Kd.C_below HR0.out HB.out) HC0.out (Kd.C_below HR1.out HB.out) HC1.out HFa.out).mono ?_; rintro e w3 ⟨v, rfl, ho, hb⟩; clear HFa; replace HB := Aside0.mk (below_then HB.out HB.out.size hb); replace K1 := Aside0.mk (blk_below K1.out hb); replace K2 := Aside0.mk (blk_below K2.out hb); obtain ⟨Aa, ca, hv, hcl, hC⟩ := ho.reads; subst hv; have HCa := Aside0.mk hcl; have HRa := Aside0.mk hC; clear hcl hC; obtain ⟨hy0, hy1, hy2, hy3, hy4, hy5, hy6, hy7, hy8, hy9, hy10, hy11, hy12, hy13⟩ := cz7_ K1.out; obtain ⟨hz0, hz1, hz2, hz3, hz4, hz5, hz6, hz7, hz8, hz9, hz10, hz11, hz12, hz13⟩ := cz7_ K2.out; clear hb ho) | (go_at_call 46; clear hy0 hy1 hy2 hy3 hy4 hy5 hy6 hy7 hy8 hy9 hy10 hy11 hy12 hy13; clear hz0 hz1 hz2 hz3 hz4 hz5 hz6 hz7 hz8 hz9 hz10 hz11 hz12 hz13; refine (ledger_Open.callsS k A0 c0 l d A2 c2 lb 0 _ (Kd.C_below HR0.out HB.out) HC0.out (Kd.C_below HR2.out HB.out) HC2.out HFb.out).mono ?_; rintro e w4 ⟨v, rfl, ho, hb⟩; clear HFb; replace HB := Aside0.mk (below_then HB.out HB.out.size hb); replace K1 := Aside0.mk (blk_below K1.out hb); replace K2 := Aside0.mk (blk_below K2.out hb); replace HRa := Aside0.mk (Kd.C_below HRa.out hb); obtain ⟨Ab, cb, hv, hcl, hC⟩ := ho.reads; subst hv; have HCb := Aside0.mk hcl; have HRb := Aside0.mk hC; clear hcl hC; obtain ⟨hy0, hy1, hy2, hy3, hy4, hy5, hy6, hy7, hy8, hy9, hy10, hy11, hy12, hy13⟩ := cz7_ K1.out; obtain ⟨hz0, hz1, hz2, hz3, hz4, hz5, hz6, hz7, hz8, hz9, hz10, hz11, hz12, hz13⟩ := cz7_ K2.out; clear hb ho) | (go_at_call 46; clear hy0 hy1 hy2 hy3 hy4 hy5 hy6 hy7 hy8 hy9 hy10 hy11 hy12 hy13; clear hz0 hz1 hz2 hz3 hz4 hz5 hz6 hz7 hz8 hz9 hz10 hz11 hz12 hz13; refine (ledger_Open.callsS k Aa ca la d A2 c2 lx 8 _ HRa.out HCa.out (Kd.C_below HR2.out HB.out) HC2.out HFx.out).mono ?_; rintro e w5 ⟨v, rfl, ho, hb⟩; clear HFx; replace HB := Aside0.mk (below_then HB.out HB.out.size hb); replace K1 := Aside0.mk (blk_below K1.out hb); replace K2 := Aside0.mk (blk_below K2.out hb); replace HRa := Aside0.mk (Kd.C_below HRa.out hb); replace HRb := Aside0.mk (Kd.C_below HRb.out hb); obtain ⟨Ax, cx, hv, hcl, hC⟩ := ho.reads; subst hv; have HCx := Aside0.mk hcl; have HRx := Aside0.mk hC; clear hcl hC; obtain ⟨hy0, hy1, hy2, hy3, hy4, hy5, hy6, hy7, hy8, hy9, hy10, hy11, hy12, hy13⟩ := cz7_ K1.out; obtain ⟨hz0, hz1, hz2, hz3, hz4, hz5, hz6, hz7, hz8, hz9, hz10, hz11, hz12, hz13⟩ := cz7_ K2.out; clear hb ho) | (go_at_call 46; clear hy0 hy1 hy2 hy3 hy4 hy5 hy6 hy7 hy8 hy9 hy10 hy11 hy12 hy13; clear hz0 hz1 hz2 hz3 hz4 hz5 hz6 hz7 hz8 hz9 hz10 hz11 hz12 hz13; refine (ledger_Open.callsS k Ab cb lb c A1 c1 ly 8 _ HRb.out HCb.out (Kd.C_below HR1.out HB.out) HC1.out HFy.out).mono ?_; rintro e w6 ⟨v, rfl, ho, hb⟩; clear HFy; replace HB := Aside0.mk (below_then HB.out HB.out.size hb); replace K1 := Aside0.mk (blk_below K1.out hb); replace K2 := Aside0.mk (blk_below K2.out hb); replace HRa := Aside0.mk (Kd.C_below HRa.out hb); replace HRb := Aside0.mk (Kd.C_below HRb.out hb); replace HRx := Aside0.mk (Kd.C_below HRx.out hb); obtain ⟨Ay, cy, hv, hcl, hC⟩ := ho.reads; subst hv; have HCy := Aside0.mk hcl; have HRy := Aside0.mk hC; clear hcl hC; obtain ⟨hy0, hy1, hy2, hy3, hy4, hy5, hy6, hy7, hy8, hy9, hy10, hy11, hy12, hy13⟩ := cz7_ K1.out; obtain ⟨hz0, hz1, hz2, hz3, hz4, hz5, hz6, hz7, hz8, hz9, hz10, hz11, hz12, hz13⟩ := cz7_ K2.out; clear hb ho) | (go_at_call 47; clear hy0 hy1 hy2 hy3 hy4 hy5 hy6 hy7 hy8 hy9 hy10 hy11 hy12 hy13; clear hz0 hz1 hz2 hz3 hz4 hz5 hz6 hz7 hz8 hz9 hz10 hz11 hz12 hz13; refine (ledger_Get.calls k Aa ca la c.f0 t0 t1 t2 t3 t4 t5 t6 0 _ HRa.out HCa.out HFt.out).mono ?_; rintro e w7 ⟨v, rfl, ho, hb⟩; clear HFt; replace HB := Aside0.mk (below_then HB.out HB.out.size hb); replace K1 := Aside0.mk (blk_below K1.out hb); replace K2 := Aside0.mk (blk_below K2.out hb); replace HRa := Aside0.mk (Kd.C_below HRa.out hb); replace HRb := Aside0.mk (Kd.C_below HRb.out hb); replace HRx := Aside0.mk (Kd.C_below HRx.out hb); replace HRy := Aside0.mk (Kd.C_below HRy.out hb); obtain ⟨At, ct, hv⟩ := Kd.R_slice ho; subst hv; have HCt := Aside0.mk (Kd.R_reads' ho).2.1; have HRt := Aside0.mk (Kd.R_reads' ho).2.2; clear hb ho) | (go_at_call 48; have hal := (Below.refl w7.heap.size w7).alloc (Nat.le_refl _) (.cells #[.int .u64 t0, .int .u64 t1, .int .u64 t2, .int .u64 t3, .int .u64 t4, .slice At t5.length ct, .bool t6] 25); replace HB := Aside0.mk (below_then HB.out HB.out.size hal); replace K1 := Aside0.mk (blk_below K1.out hal); replace K2 := Aside0.mk (blk_below K2.out hal); replace HRa := Aside0.mk (Kd.C_below HRa.out hal); replace HRb := Aside0.mk (Kd.C_below HRb.out hal); replace HRx := Aside0.mk (Kd.C_below HRx.out hal); replace HRy := Aside0.mk (Kd.C_below HRy.out hal); replace HRt := Aside0.mk (Kd.C_below HRt.out hal); have Kt := Aside0.mk (blk_new w7 (.cells #[.int .u64 t0, .int .u64 t1, .int .u64 t2, .int .u64 t3, .int .u64 t4, .slice At t5.length ct, .bool t6] 25)); clear hal; refine (ledger_Same.calls k Ax cx lx Ay cy ly true _ HRx.out HCx.out HRy.out HCy.out HFm.out).mono ?_; rintro e w8 ⟨rfl, hb⟩; clear HFm; replace HB := Aside0.mk (below_then HB.out HB.out.size hb); replace K1 := Aside0.mk (blk_below K1.out hb); replace K2 := Aside0.mk (blk_below K2.out hb); replace HRa := Aside0.mk (Kd.C_below HRa.out hb); replace HRb := Aside0.mk (Kd.C_below HRb.out hb); replace HRx := Aside0.mk (Kd.C_below HRx.out hb); replace HRy := Aside0.mk (Kd.C_below HRy.out hb); replace HRt := Aside0.mk (Kd.C_below HRt.out hb); replace Kt := Aside0.mk (blk_below Kt.out hb); obtain ⟨hy0, hy1, hy2, hy3, hy4, hy5, hy6, hy7, hy8, hy9, hy10, hy11, hy12, hy13⟩ := cz7_ K1.out; obtain ⟨hz0, hz1, hz2, hz3, hz4, hz5, hz6, hz7, hz8, hz9, hz10, hz11, hz12, hz13⟩ := cz7_ Kt.out; clear hb) | (go_at_call 26; clear hy0 hy1 hy2 hy3 hy4 hy5 hy6 hy7 hy8 hy9 hy10 hy11 hy12 hy13; clear hz0 hz1 hz2 hz3 hz4 hz5 hz6 hz7 hz8 hz9 hz10 hz11 hz12 hz13; refine (channel_Same.calls k t0 t1 t2 t3 t4 At ct t5 t6 c.f0 c.f1 c.f2 c.f3 c.f4 A1 c1 c.f5 c.f6 true _ HRt.out HCt.out (Kd.C_below HR1.out HB.out) HC1.out HFq.out).mono ?_; rintro e w9 ⟨rfl, hb⟩; clear HFq; replace HB := Aside0.mk (below_then HB.out HB.out.size hb); replace K1 := Aside0.mk (blk_below K1.out hb); replace K2 := Aside0.mk (blk_below K2.out hb); replace HRa := Aside0.mk (Kd.C_below HRa.out hb); replace HRb := Aside0.mk (Kd.C_below HRb.out hb); replace HRx := Aside0.mk (Kd.C_below HRx.out hb); replace HRy := Aside0.mk (Kd.C_below HRy.out hb); replace HRt := Aside0.mk (Kd.C_below HRt.out hb); replace Kt := Aside0.mk (blk_below Kt.out hb); clear hb))
    go_ret
    exact ⟨rfl, HB.out⟩
theorem damsonlaw10_LedgerOpens.calls (k : Nat) (A0 : Option Addr) (c0 : Nat) (l0 : List S25) (a1_0 a1_1 a1_2 a1_3 a1_4 : Int) (A1_5 : Option Addr) (c1_5 : Nat) (l1_5 : List S44) (a1_6 : Bool) (a2_0 a2_1 a2_2 a2_3 a2_4 : Int) (A2_5 : Option Addr) (c2_5 : Nat) (l2_5 : List S44) (a2_6 : Bool) (r : Bool) (w : World) (hr0 : Kd.C k25 w A0 l0.length l0) (hc0 : l0.length ≤ c0) (hr1_5 : Kd.C k44 w A1_5 l1_5.length l1_5) (hc1_5 : l1_5.length ≤ c1_5) (hr2_5 : Kd.C k44 w A2_5 l2_5.length l2_5) (hc2_5 : l2_5.length ≤ c2_5) (h : damsonlaw10_LedgerOpens.f k l0 a1_0 a1_1 a1_2 a1_3 a1_4 l1_5 a1_6 a2_0 a2_1 a2_2 a2_3 a2_4 l2_5 a2_6 = some r) :
    Calls Try.prog 10 #[.slice A0 l0.length c0, .agg #[.int .u64 a1_0, .int .u64 a1_1, .int .u64 a1_2, .int .u64 a1_3, .int .u64 a1_4, .slice A1_5 l1_5.length c1_5, .bool a1_6], .agg #[.int .u64 a2_0, .int .u64 a2_1, .int .u64 a2_2, .int .u64 a2_3, .int .u64 a2_4, .slice A2_5 l2_5.length c2_5, .bool a2_6]] w fun e w' => e = .returned (.bool r) ∧ Below w.heap.size w w' :=
  damsonlaw10_LedgerOpens.callsS k A0 c0 l0 ⟨a1_0, a1_1, a1_2, a1_3, a1_4, l1_5, a1_6⟩  A1_5 c1_5 ⟨a2_0, a2_1, a2_2, a2_3, a2_4, l2_5, a2_6⟩ A2_5 c2_5 r w hr0 hc0 hr1_5 hc1_5 hr2_5 hc2_5 h


/-- THE ONE PURE STATEMENT of damsonlaw10_LedgerOpens: yours. -/
def damsonlaw10_LedgerOpens.Pure : Prop := ∀ (l0 : List (S25)) (s1 : S25) (s2 : S25), (l0.length ≤ 9223372036854775807 ∧ ∀ y_ ∈ l0, G25 y_) → G25 s1 → G25 s2 → ∃ k, damsonlaw10_LedgerOpens.f k l0 (s1.f0) (s1.f1) (s1.f2) (s1.f3) (s1.f4) (s1.f5) (s1.f6) (s2.f0) (s2.f1) (s2.f2) (s2.f3) (s2.f4) (s2.f5) (s2.f6) = some true
theorem damsonlaw10_LedgerOpens.walk (P : damsonlaw10_LedgerOpens.Pure) (w : World) (l0 : List (S25)) (A0 : Option Addr) (c0 : Nat) (hr0 : Kd.C k25 w A0 l0.length l0) (hc0 : l0.length ≤ c0) (g0 : l0.length ≤ 9223372036854775807 ∧ ∀ y_ ∈ l0, G25 y_) (s1 : S25) (A1_5 : Option Addr) (c1_5 : Nat) (hr1_5 : Kd.C k44 w A1_5 (s1.f5).length (s1.f5)) (hc1_5 : (s1.f5).length ≤ c1_5) (g1 : G25 s1) (s2 : S25) (A2_5 : Option Addr) (c2_5 : Nat) (hr2_5 : Kd.C k44 w A2_5 (s2.f5).length (s2.f5)) (hc2_5 : (s2.f5).length ≤ c2_5) (g2 : G25 s2) :
    Calls Try.prog 10 #[.slice A0 l0.length c0, .agg #[.int .u64 (s1.f0), .int .u64 (s1.f1), .int .u64 (s1.f2), .int .u64 (s1.f3), .int .u64 (s1.f4), .slice A1_5 (s1.f5).length c1_5, .bool (s1.f6)], .agg #[.int .u64 (s2.f0), .int .u64 (s2.f1), .int .u64 (s2.f2), .int .u64 (s2.f3), .int .u64 (s2.f4), .slice A2_5 (s2.f5).length c2_5, .bool (s2.f6)]] w fun e w' => e = .returned (.bool true) ∧ Below w.heap.size w w' := by
  obtain ⟨k, h⟩ := P l0 s1 s2 g0 g1 g2
  refine (damsonlaw10_LedgerOpens.calls k A0 c0 l0 (s1.f0) (s1.f1) (s1.f2) (s1.f3) (s1.f4) A1_5 c1_5 (s1.f5) (s1.f6) (s2.f0) (s2.f1) (s2.f2) (s2.f3) (s2.f4) A2_5 c2_5 (s2.f5) (s2.f6) true w hr0 hc0 hr1_5 hc1_5 hr2_5 hc2_5 h).mono ?_
  rintro e w' ⟨rfl, hd⟩
  exact ⟨rfl, hd⟩
end Go.Proofs.Ytcfbcoinbecdfaa.P
