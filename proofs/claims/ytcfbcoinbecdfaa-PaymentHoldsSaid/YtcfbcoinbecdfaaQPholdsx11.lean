-- written by a program of this session (wip/print)
import Derived.Test.YtcfbcoinbecdfaaQPholdsx0
import Derived.Test.YtcfbcoinbecdfaaQPholdsx1
import Derived.Test.YtcfbcoinbecdfaaQPholdsx6
import Derived.Test.YtcfbcoinbecdfaaQPholdsx7
import Derived.Test.YtcfbcoinbecdfaaQPholdsx9
import Derived.Test.YtcfbcoinbecdfaaQPholdsx10
namespace Go.Proofs.Ytcfbcoinbecdfaa.P
open Go.RowKit Go.Proofs.YtcfbcoinbecdfaaW.PrintWords Go.Proofs.YtcfbcoinbecdfaaW.PrintLast Go.Proofs.YtcfbcoinbecdfaaW.PrintMore
attribute [local go_sem] max2_int min2_int max_two min_two max_three min_three max_four min_four run_sub64_   -- for this text's walks alone
set_option linter.unusedVariables false
set_option linter.unusedSimpArgs false

/-! ### damsonlaw13_PaymentHolds: function 20 (by hand) -/
def damsonlaw13_PaymentHolds.b (k : Nat) (o : List S25) (p : S74) (paid : Bool) (m : List S74) (h : List S25) : Option Bool := (payment_Agree.f k m h).bind fun a => (payment_Agree.f k m o).bind fun b => (payment_End.f k m p.f0 paid).bind fun d => (ledger_End.g k h p.f0 paid).bind fun e => (payment_Agree.f k d.1 e.1).bind fun c =>
  if a.2 = 0 ∧ a.1 = true ∧ b.2 = 0 ∧ b.1 = false ∧ d.2 = 0 ∧ e.2.2 = 0 ∧ e.2.1 = p.f3 ∧ c.2 = 0 ∧ c.1 = true then some true else none
def damsonlaw13_PaymentHolds.g (k : Nat) (l : List S74) (o : List S25) (p : S74) (paid : Bool) : Option Bool := (damsonlaw13_live.f k).bind fun t1 => if t1 = true then (damsonlaw13_few.f l).bind fun t2 => if t2 = true then (damsonref10_Few.f k o).bind fun t3 => if t3 = true then
  (payment_Agree.f k l o).bind fun a => if a.1 = true then (if a.2 = 0 then (payment_Start.f k l p.f0 p.f1 p.f2 p.f3 1).bind fun m => (ledger_Hold.g k o p.f2 p.f0 p.f3).bind fun h => if m.2 = 0 then (if h.2 = 0 then damsonlaw13_PaymentHolds.b k o p paid m.1 h.1 else some true) else some true
  else none) else some true else some true else some true else none
def damsonlaw13_PaymentHolds.f (k : Nat) (l : List S74) (o : List S25) (a2_0 a2_1 a2_2 a2_3 a2_4 : Int) (paid : Bool) : Option Bool := damsonlaw13_PaymentHolds.g k l o ⟨a2_0, a2_1, a2_2, a2_3, a2_4⟩ paid
theorem damsonlaw13_PaymentHolds.mono : ∀ b0 b1 b2 b3 b4 b5 b6 b7 k, LeO (damsonlaw13_PaymentHolds.f k b0 b1 b2 b3 b4 b5 b6 b7) (damsonlaw13_PaymentHolds.f (k + 1) b0 b1 b2 b3 b4 b5 b6 b7) := by
  intro b0 b1 b2 b3 b4 b5 b6 b7 k
  unfold damsonlaw13_PaymentHolds.f damsonlaw13_PaymentHolds.g damsonlaw13_PaymentHolds.b
  repeat' first
    | (with_reducible exact LeO.refl _)
    | apply damsonlaw13_live.mono
    | apply damsonref10_Few.mono
    | apply payment_Agree.mono
    | apply payment_Start.mono
    | apply payment_End.mono
    | apply ledger_Hold.mono_g
    | apply ledger_End.mono_g
    | (with_reducible refine LeO.ite ?_ ?_)
    | (with_reducible refine LeO.bind ?_ (fun _ => ?_))
set_option maxHeartbeats 16000000 in
set_option maxRecDepth 100000 in
theorem damsonlaw13_PaymentHolds.callsS (k : Nat) (A0 : Option Addr) (c0 : Nat) (l : List S74) (A1 : Option Addr) (c1 : Nat) (o : List S25) (p : S74) (paid : Bool) (r : Bool) (w : World) (hr0 : Kd.C k74 w A0 l.length l) (hc0 : l.length ≤ c0) (hr1 : Kd.C k25 w A1 o.length o) (hc1 : o.length ≤ c1) (h : damsonlaw13_PaymentHolds.g k l o p paid = some r) :
    Calls Try.prog 20 #[.slice A0 l.length c0, .slice A1 o.length c1, .agg #[.int .u64 p.f0, .int .u64 p.f1, .int .u64 p.f2, .int .u64 p.f3, .int .i64 p.f4], .bool paid] w fun e w' => e = .returned (.bool r) ∧ Below w.heap.size w w' := by
  have HR0 := Aside0.mk hr0
  have HC0 := Aside0.mk hc0
  have HR1 := Aside0.mk hr1
  have HC1 := Aside0.mk hc1
  clear hr0 hc0 hr1 hc1
  have HB := Aside0.mk ((Below.refl w.heap.size w).alloc (Nat.le_refl _) (.cells #[.int .u64 p.f0, .int .u64 p.f1, .int .u64 p.f2, .int .u64 p.f3, .int .i64 p.f4] 74))
  have KP := Aside0.mk (blk_new w (.cells #[.int .u64 p.f0, .int .u64 p.f1, .int .u64 p.f2, .int .u64 p.f3, .int .i64 p.f4] 74))
  unfold damsonlaw13_PaymentHolds.g at h
  obtain ⟨t1, h1, h_⟩ := Option.bind_eq_some_iff.mp h
  replace h := h_
  clear h_
  have HF1 := Aside0.mk h1
  clear h1
  try dsimp only at h
  by_cases hc : t1 = true
  case neg =>
    rw [if_neg hc] at h
    cases h
  rw [if_pos hc] at h
  subst hc
  obtain ⟨t2, h1, h_⟩ := Option.bind_eq_some_iff.mp h
  replace h := h_
  clear h_
  have HF2 := Aside0.mk h1
  clear h1
  try dsimp only at h
  by_cases hc : t2 = true
  case neg =>
    rw [if_neg hc] at h
    have hb_ : t2 = false := by simpa using hc
    subst hb_
    clear hc
    injection h with h
    subst h
    go_enter Try.func20, Try.ntmps20
    go_wp2_with (first | (go_at_call 68; refine (damsonlaw13_live.calls k _ _ HF1.out).mono ?_; rintro e w1 ⟨rfl, hb⟩; clear HF1; replace HB := Aside0.mk (below_then HB.out HB.out.size hb); replace KP := Aside0.mk (blk_below KP.out hb); clear hb) | (go_at_call 69; refine (damsonlaw13_few.calls A0 c0 l _ _ (Kd.C_below HR0.out HB.out) HC0.out HF2.out).mono ?_; rintro e w2 ⟨rfl, hd⟩; clear HF2; have hb := hd.below; replace HB := Aside0.mk (below_then HB.out HB.out.size hb); replace KP := Aside0.mk (blk_below KP.out hb); clear hb hd))
    go_ret
    exact ⟨rfl, HB.out⟩
  rw [if_pos hc] at h
  subst hc
  obtain ⟨t3, h1, h_⟩ := Option.bind_eq_some_iff.mp h
  replace h := h_
  clear h_
  have HF3 := Aside0.mk h1
  clear h1
  try dsimp only at h
  by_cases hc : t3 = true
  case neg =>
    rw [if_neg hc] at h
    have hb_ : t3 = false := by simpa using hc
    subst hb_
    clear hc
    injection h with h
    subst h
    go_enter Try.func20, Try.ntmps20
    go_wp2_with (first | (go_at_call 68; refine (damsonlaw13_live.calls k _ _ HF1.out).mono ?_; rintro e w1 ⟨rfl, hb⟩; clear HF1; replace HB := Aside0.mk (below_then HB.out HB.out.size hb); replace KP := Aside0.mk (blk_below KP.out hb); clear hb) | (go_at_call 69; refine (damsonlaw13_few.calls A0 c0 l _ _ (Kd.C_below HR0.out HB.out) HC0.out HF2.out).mono ?_; rintro e w2 ⟨rfl, hd⟩; clear HF2; have hb := hd.below; replace HB := Aside0.mk (below_then HB.out HB.out.size hb); replace KP := Aside0.mk (blk_below KP.out hb); clear hb hd) | (go_at_call 45; refine (damsonref10_Few.calls k A1 c1 o _ _ (Kd.C_below HR1.out HB.out) HC1.out HF3.out).mono ?_; rintro e w3 ⟨rfl, hb⟩; clear HF3; replace HB := Aside0.mk (below_then HB.out HB.out.size hb); replace KP := Aside0.mk (blk_below KP.out hb); clear hb))
    go_ret
    exact ⟨rfl, HB.out⟩
  rw [if_pos hc] at h
  subst hc
  obtain ⟨⟨a1, ae⟩, h1, h_⟩ := Option.bind_eq_some_iff.mp h
  replace h := h_
  clear h_
  have HFa := Aside0.mk h1
  clear h1
  try dsimp only at h
  by_cases hc : a1 = true
  case neg =>
    rw [if_neg hc] at h
    have hb_ : a1 = false := by simpa using hc
    subst hb_
    clear hc
    injection h with h
    subst h
    by_cases hq : ae = 0
    · subst hq
      go_enter Try.func20, Try.ntmps20
      go_wp2_with (first | (go_at_call 68; refine (damsonlaw13_live.calls k _ _ HF1.out).mono ?_; rintro e w1 ⟨rfl, hb⟩; clear HF1; replace HB := Aside0.mk (below_then HB.out HB.out.size hb); replace KP := Aside0.mk (blk_below KP.out hb); clear hb) | (go_at_call 69; refine (damsonlaw13_few.calls A0 c0 l _ _ (Kd.C_below HR0.out HB.out) HC0.out HF2.out).mono ?_; rintro e w2 ⟨rfl, hd⟩; clear HF2; have hb := hd.below; replace HB := Aside0.mk (below_then HB.out HB.out.size hb); replace KP := Aside0.mk (blk_below KP.out hb); clear hb hd) | (go_at_call 45; refine (damsonref10_Few.calls k A1 c1 o _ _ (Kd.C_below HR1.out HB.out) HC1.out HF3.out).mono ?_; rintro e w3 ⟨rfl, hb⟩; clear HF3; replace HB := Aside0.mk (below_then HB.out HB.out.size hb); replace KP := Aside0.mk (blk_below KP.out hb); clear hb) | (go_at_call 82; refine (payment_Agree.calls k A0 c0 l A1 c1 o false 0 _ (Kd.C_below HR0.out HB.out) HC0.out (Kd.C_below HR1.out HB.out) HC1.out HFa.out).mono ?_; rintro e w4 ⟨rfl, hb⟩; clear HFa; replace HB := Aside0.mk (below_then HB.out HB.out.size hb); replace KP := Aside0.mk (blk_below KP.out hb); clear hb))
      go_ret
      exact ⟨rfl, HB.out⟩
    · have hqb : (ae != 0) = true := bne_iff_ne.mpr hq
      clear hq
      go_enter Try.func20, Try.ntmps20
      go_wp2_with (first | (go_at_call 68; refine (damsonlaw13_live.calls k _ _ HF1.out).mono ?_; rintro e w1 ⟨rfl, hb⟩; clear HF1; replace HB := Aside0.mk (below_then HB.out HB.out.size hb); replace KP := Aside0.mk (blk_below KP.out hb); clear hb) | (go_at_call 69; refine (damsonlaw13_few.calls A0 c0 l _ _ (Kd.C_below HR0.out HB.out) HC0.out HF2.out).mono ?_; rintro e w2 ⟨rfl, hd⟩; clear HF2; have hb := hd.below; replace HB := Aside0.mk (below_then HB.out HB.out.size hb); replace KP := Aside0.mk (blk_below KP.out hb); clear hb hd) | (go_at_call 45; refine (damsonref10_Few.calls k A1 c1 o _ _ (Kd.C_below HR1.out HB.out) HC1.out HF3.out).mono ?_; rintro e w3 ⟨rfl, hb⟩; clear HF3; replace HB := Aside0.mk (below_then HB.out HB.out.size hb); replace KP := Aside0.mk (blk_below KP.out hb); clear hb) | (go_at_call 82; refine (payment_Agree.calls k A0 c0 l A1 c1 o false ae _ (Kd.C_below HR0.out HB.out) HC0.out (Kd.C_below HR1.out HB.out) HC1.out HFa.out).mono ?_; rintro e w4 ⟨rfl, hb⟩; clear HFa; replace HB := Aside0.mk (below_then HB.out HB.out.size hb); replace KP := Aside0.mk (blk_below KP.out hb); clear hb))
      go_ret
      exact ⟨rfl, HB.out⟩
  rw [if_pos hc] at h
  subst hc
  by_cases hc : ae = 0
  case neg =>
    rw [if_neg hc] at h
    cases h
  rw [if_pos hc] at h
  subst hc
  obtain ⟨⟨lm, em⟩, h1, h_⟩ := Option.bind_eq_some_iff.mp h
  replace h := h_
  clear h_
  have HFm := Aside0.mk h1
  clear h1
  try dsimp only at h
  obtain ⟨⟨lh, eh⟩, h1, h_⟩ := Option.bind_eq_some_iff.mp h
  replace h := h_
  clear h_
  have HFh := Aside0.mk h1
  clear h1
  try dsimp only at h
  by_cases hc : em = 0
  case neg =>
    rw [if_neg hc] at h
    have he : (em != 0) = true := bne_iff_ne.mpr hc
    clear hc
    injection h with h
    subst h
    go_enter Try.func20, Try.ntmps20
    go_wp2_with (first | (go_at_call 68; refine (damsonlaw13_live.calls k _ _ HF1.out).mono ?_; rintro e w1 ⟨rfl, hb⟩; clear HF1; replace HB := Aside0.mk (below_then HB.out HB.out.size hb); replace KP := Aside0.mk (blk_below KP.out hb); clear hb) | (go_at_call 69; refine (damsonlaw13_few.calls A0 c0 l _ _ (Kd.C_below HR0.out HB.out) HC0.out HF2.out).mono ?_; rintro e w2 ⟨rfl, hd⟩; clear HF2; have hb := hd.below; replace HB := Aside0.mk (below_then HB.out HB.out.size hb); replace KP := Aside0.mk (blk_below KP.out hb); clear hb hd) | (go_at_call 45; refine (damsonref10_Few.calls k A1 c1 o _ _ (Kd.C_below HR1.out HB.out) HC1.out HF3.out).mono ?_; rintro e w3 ⟨rfl, hb⟩; clear HF3; replace HB := Aside0.mk (below_then HB.out HB.out.size hb); replace KP := Aside0.mk (blk_below KP.out hb); clear hb) | (go_at_call 82; refine (payment_Agree.calls k A0 c0 l A1 c1 o true 0 _ (Kd.C_below HR0.out HB.out) HC0.out (Kd.C_below HR1.out HB.out) HC1.out HFa.out).mono ?_; rintro e w4 ⟨rfl, hb⟩; clear HFa; replace HB := Aside0.mk (below_then HB.out HB.out.size hb); replace KP := Aside0.mk (blk_below KP.out hb); obtain ⟨hz0, hz1, hz2, hz3, hz4, hz5, hz6, hz7, hz8, hz9⟩ := cz5_ KP.out; clear hb) | (go_at_call 71; clear hz0 hz1 hz2 hz3 hz4 hz5 hz6 hz7 hz8 hz9; have hset := blk_set KP.out 4 (.int .i64 1); replace HB := Aside0.mk (HB.out.setCell (p := ⟨w.heap.size, 4, none⟩) (Nat.le_refl _) (.int .i64 1)); replace KP := Aside0.mk (show (w4.setCell ⟨w.heap.size, 4, none⟩ (.int .i64 1)).heap[w.heap.size]? = some (.cells #[.int .u64 p.f0, .int .u64 p.f1, .int .u64 p.f2, .int .u64 p.f3, .int .i64 1] 74 (0, 0)) from hset); clear hset; refine (payment_Start.calls k A0 c0 l p.f0 p.f1 p.f2 p.f3 1 lm em _ (Kd.C_below HR0.out HB.out) HC0.out HFm.out).mono ?_; rintro e w5 ⟨v, rfl, ho, hb⟩; clear HFm; replace HB := Aside0.mk (below_then HB.out HB.out.size hb); replace KP := Aside0.mk (blk_below KP.out hb); obtain ⟨Am, cm, hv⟩ := Kd.R_slice ho; subst hv; have HCm := Aside0.mk (Kd.R_reads' ho).2.1; have HRm := Aside0.mk (Kd.R_reads' ho).2.2; obtain ⟨hz0, hz1, hz2, hz3, hz4, hz5, hz6, hz7, hz8, hz9⟩ := cz5_ KP.out; clear hb ho) | (go_at_call 57; clear hz0 hz1 hz2 hz3 hz4 hz5 hz6 hz7 hz8 hz9; refine (ledger_Hold.callsS k A1 c1 o p.f2 p.f0 p.f3 lh eh _ (Kd.C_below HR1.out HB.out) HC1.out HFh.out).mono ?_; rintro e w6 ⟨v, rfl, ho, hb⟩; clear HFh; replace HB := Aside0.mk (below_then HB.out HB.out.size hb); replace KP := Aside0.mk (blk_below KP.out hb); replace HRm := Aside0.mk (Kd.C_below HRm.out hb); obtain ⟨Ah, ch, hv, hcl, hC⟩ := ho.reads; subst hv; have HCh := Aside0.mk hcl; have HRh := Aside0.mk hC; clear hcl hC; clear hb ho))
    go_ret
    exact ⟨rfl, HB.out⟩
  rw [if_pos hc] at h
  subst hc
  by_cases hc : eh = 0
  case neg =>
    rw [if_neg hc] at h
    have he : (eh != 0) = true := bne_iff_ne.mpr hc
    clear hc
    injection h with h
    subst h
    go_enter Try.func20, Try.ntmps20
    go_wp2_with (first | (go_at_call 68; refine (damsonlaw13_live.calls k _ _ HF1.out).mono ?_; rintro e w1 ⟨rfl, hb⟩; clear HF1; replace HB := Aside0.mk (below_then HB.out HB.out.size hb); replace KP := Aside0.mk (blk_below KP.out hb); clear hb) | (go_at_call 69; refine (damsonlaw13_few.calls A0 c0 l _ _ (Kd.C_below HR0.out HB.out) HC0.out HF2.out).mono ?_; rintro e w2 ⟨rfl, hd⟩; clear HF2; have hb := hd.below; replace HB := Aside0.mk (below_then HB.out HB.out.size hb); replace KP := Aside0.mk (blk_below KP.out hb); clear hb hd) | (go_at_call 45; refine (damsonref10_Few.calls k A1 c1 o _ _ (Kd.C_below HR1.out HB.out) HC1.out HF3.out).mono ?_; rintro e w3 ⟨rfl, hb⟩; clear HF3; replace HB := Aside0.mk (below_then HB.out HB.out.size hb); replace KP := Aside0.mk (blk_below KP.out hb); clear hb) | (go_at_call 82; refine (payment_Agree.calls k A0 c0 l A1 c1 o true 0 _ (Kd.C_below HR0.out HB.out) HC0.out (Kd.C_below HR1.out HB.out) HC1.out HFa.out).mono ?_; rintro e w4 ⟨rfl, hb⟩; clear HFa; replace HB := Aside0.mk (below_then HB.out HB.out.size hb); replace KP := Aside0.mk (blk_below KP.out hb); obtain ⟨hz0, hz1, hz2, hz3, hz4, hz5, hz6, hz7, hz8, hz9⟩ := cz5_ KP.out; clear hb) | (go_at_call 71; clear hz0 hz1 hz2 hz3 hz4 hz5 hz6 hz7 hz8 hz9; have hset := blk_set KP.out 4 (.int .i64 1); replace HB := Aside0.mk (HB.out.setCell (p := ⟨w.heap.size, 4, none⟩) (Nat.le_refl _) (.int .i64 1)); replace KP := Aside0.mk (show (w4.setCell ⟨w.heap.size, 4, none⟩ (.int .i64 1)).heap[w.heap.size]? = some (.cells #[.int .u64 p.f0, .int .u64 p.f1, .int .u64 p.f2, .int .u64 p.f3, .int .i64 1] 74 (0, 0)) from hset); clear hset; refine (payment_Start.calls k A0 c0 l p.f0 p.f1 p.f2 p.f3 1 lm 0 _ (Kd.C_below HR0.out HB.out) HC0.out HFm.out).mono ?_; rintro e w5 ⟨v, rfl, ho, hb⟩; clear HFm; replace HB := Aside0.mk (below_then HB.out HB.out.size hb); replace KP := Aside0.mk (blk_below KP.out hb); obtain ⟨Am, cm, hv⟩ := Kd.R_slice ho; subst hv; have HCm := Aside0.mk (Kd.R_reads' ho).2.1; have HRm := Aside0.mk (Kd.R_reads' ho).2.2; obtain ⟨hz0, hz1, hz2, hz3, hz4, hz5, hz6, hz7, hz8, hz9⟩ := cz5_ KP.out; clear hb ho) | (go_at_call 57; clear hz0 hz1 hz2 hz3 hz4 hz5 hz6 hz7 hz8 hz9; refine (ledger_Hold.callsS k A1 c1 o p.f2 p.f0 p.f3 lh eh _ (Kd.C_below HR1.out HB.out) HC1.out HFh.out).mono ?_; rintro e w6 ⟨v, rfl, ho, hb⟩; clear HFh; replace HB := Aside0.mk (below_then HB.out HB.out.size hb); replace KP := Aside0.mk (blk_below KP.out hb); replace HRm := Aside0.mk (Kd.C_below HRm.out hb); obtain ⟨Ah, ch, hv, hcl, hC⟩ := ho.reads; subst hv; have HCh := Aside0.mk hcl; have HRh := Aside0.mk hC; clear hcl hC; clear hb ho))
    go_ret
    exact ⟨rfl, HB.out⟩
  rw [if_pos hc] at h
  subst hc
  unfold damsonlaw13_PaymentHolds.b at h
  obtain ⟨⟨b1, be⟩, h1, h_⟩ := Option.bind_eq_some_iff.mp h
  replace h := h_
  clear h_
  have HFb := Aside0.mk h1
  clear h1
  try dsimp only at h
  obtain ⟨⟨d1, de⟩, h1, h_⟩ := Option.bind_eq_some_iff.mp h
  replace h := h_
  clear h_
  have HFd := Aside0.mk h1
  clear h1
  try dsimp only at h
  obtain ⟨⟨ld, ed⟩, h1, h_⟩ := Option.bind_eq_some_iff.mp h
  replace h := h_
  clear h_
  have HFe := Aside0.mk h1
  clear h1
  try dsimp only at h
  obtain ⟨⟨le, ne, ee⟩, h1, h_⟩ := Option.bind_eq_some_iff.mp h
  replace h := h_
  clear h_
  have HFg := Aside0.mk h1
  clear h1
  try dsimp only at h
  obtain ⟨⟨g1, ge⟩, h1, h_⟩ := Option.bind_eq_some_iff.mp h
  replace h := h_
  clear h_
  have HFq := Aside0.mk h1
  clear h1
  try dsimp only at h
  by_cases hc : be = 0 ∧ b1 = true ∧ de = 0 ∧ d1 = false ∧ ed = 0 ∧ ee = 0 ∧ ne = p.f3 ∧ ge = 0 ∧ g1 = true
  case neg =>
    rw [if_neg hc] at h
    cases h
  rw [if_pos hc] at h
  injection h with h
  subst h
  obtain ⟨rfl, rfl, rfl, rfl, rfl, rfl, hn, rfl, rfl⟩ := hc
  have gn : (ne == p.f3) = true := beq_iff_eq.mpr hn
  clear hn
  go_enter Try.func20, Try.ntmps20
  go_wp2_with (first | (go_at_call 68; refine (damsonlaw13_live.calls k _ _ HF1.out).mono ?_; rintro e w1 ⟨rfl, hb⟩; clear HF1; replace HB := Aside0.mk (below_then HB.out HB.out.size hb); replace KP := Aside0.mk (blk_below KP.out hb); clear hb) | (go_at_call 69; refine (damsonlaw13_few.calls A0 c0 l _ _ (Kd.C_below HR0.out HB.out) HC0.out HF2.out).mono ?_; rintro e w2 ⟨rfl, hd⟩; clear HF2; have hb := hd.below; replace HB := Aside0.mk (below_then HB.out HB.out.size hb); replace KP := Aside0.mk (blk_below KP.out hb); clear hb hd) | (go_at_call 45; refine (damsonref10_Few.calls k A1 c1 o _ _ (Kd.C_below HR1.out HB.out) HC1.out HF3.out).mono ?_; rintro e w3 ⟨rfl, hb⟩; clear HF3; replace HB := Aside0.mk (below_then HB.out HB.out.size hb); replace KP := Aside0.mk (blk_below KP.out hb); clear hb) | (go_at_call 82; refine (payment_Agree.calls k A0 c0 l A1 c1 o true 0 _ (Kd.C_below HR0.out HB.out) HC0.out (Kd.C_below HR1.out HB.out) HC1.out HFa.out).mono ?_; rintro e w4 ⟨rfl, hb⟩; clear HFa; replace HB := Aside0.mk (below_then HB.out HB.out.size hb); replace KP := Aside0.mk (blk_below KP.out hb); obtain ⟨hz0, hz1, hz2, hz3, hz4, hz5, hz6, hz7, hz8, hz9⟩ := cz5_ KP.out; clear hb) | (go_at_call 71; clear hz0 hz1 hz2 hz3 hz4 hz5 hz6 hz7 hz8 hz9; have hset := blk_set KP.out 4 (.int .i64 1); replace HB := Aside0.mk (HB.out.setCell (p := ⟨w.heap.size, 4, none⟩) (Nat.le_refl _) (.int .i64 1)); replace KP := Aside0.mk (show (w4.setCell ⟨w.heap.size, 4, none⟩ (.int .i64 1)).heap[w.heap.size]? = some (.cells #[.int .u64 p.f0, .int .u64 p.f1, .int .u64 p.f2, .int .u64 p.f3, .int .i64 1] 74 (0, 0)) from hset); clear hset; refine (payment_Start.calls k A0 c0 l p.f0 p.f1 p.f2 p.f3 1 lm 0 _ (Kd.C_below HR0.out HB.out) HC0.out HFm.out).mono ?_; rintro e w5 ⟨v, rfl, ho, hb⟩; clear HFm; replace HB := Aside0.mk (below_then HB.out HB.out.size hb); replace KP := Aside0.mk (blk_below KP.out hb); obtain ⟨Am, cm, hv⟩ := Kd.R_slice ho; subst hv; have HCm := Aside0.mk (Kd.R_reads' ho).2.1; have HRm := Aside0.mk (Kd.R_reads' ho).2.2; obtain ⟨hz0, hz1, hz2, hz3, hz4, hz5, hz6, hz7, hz8, hz9⟩ := cz5_ KP.out; clear hb ho) | (go_at_call 57; clear hz0 hz1 hz2 hz3 hz4 hz5 hz6 hz7 hz8 hz9; refine (ledger_Hold.callsS k A1 c1 o p.f2 p.f0 p.f3 lh 0 _ (Kd.C_below HR1.out HB.out) HC1.out HFh.out).mono ?_; rintro e w6 ⟨v, rfl, ho, hb⟩; clear HFh; replace HB := Aside0.mk (below_then HB.out HB.out.size hb); replace KP := Aside0.mk (blk_below KP.out hb); replace HRm := Aside0.mk (Kd.C_below HRm.out hb); obtain ⟨Ah, ch, hv, hcl, hC⟩ := ho.reads; subst hv; have HCh := Aside0.mk hcl; have HRh := Aside0.mk hC; clear hcl hC; clear hb ho) | (go_at_call 82; refine (payment_Agree.calls k Am cm lm Ah ch lh true 0 _ HRm.out HCm.out HRh.out HCh.out HFb.out).mono ?_; rintro e w7 ⟨rfl, hb⟩; clear HFb; replace HB := Aside0.mk (below_then HB.out HB.out.size hb); replace KP := Aside0.mk (blk_below KP.out hb); replace HRm := Aside0.mk (Kd.C_below HRm.out hb); replace HRh := Aside0.mk (Kd.C_below HRh.out hb); clear hb) | (go_at_call 82; refine (payment_Agree.calls k Am cm lm A1 c1 o false 0 _ HRm.out HCm.out (Kd.C_below HR1.out HB.out) HC1.out HFd.out).mono ?_; rintro e w8 ⟨rfl, hb⟩; clear HFd; replace HB := Aside0.mk (below_then HB.out HB.out.size hb); replace KP := Aside0.mk (blk_below KP.out hb); replace HRm := Aside0.mk (Kd.C_below HRm.out hb); replace HRh := Aside0.mk (Kd.C_below HRh.out hb); obtain ⟨hz0, hz1, hz2, hz3, hz4, hz5, hz6, hz7, hz8, hz9⟩ := cz5_ KP.out; clear hb) | (go_at_call 72; clear hz0 hz1 hz2 hz3 hz4 hz5 hz6 hz7 hz8 hz9; refine (payment_End.calls k Am cm lm p.f0 paid ld 0 _ HRm.out HCm.out HFe.out).mono ?_; rintro e w9 ⟨v, rfl, ho, hb⟩; clear HFe; replace HB := Aside0.mk (below_then HB.out HB.out.size hb); replace KP := Aside0.mk (blk_below KP.out hb); replace HRm := Aside0.mk (Kd.C_below HRm.out hb); replace HRh := Aside0.mk (Kd.C_below HRh.out hb); obtain ⟨Ad, cd, hv⟩ := Kd.R_slice ho; subst hv; have HCd := Aside0.mk (Kd.R_reads' ho).2.1; have HRd := Aside0.mk (Kd.R_reads' ho).2.2; obtain ⟨hz0, hz1, hz2, hz3, hz4, hz5, hz6, hz7, hz8, hz9⟩ := cz5_ KP.out; clear hb ho) | (go_at_call 58; clear hz0 hz1 hz2 hz3 hz4 hz5 hz6 hz7 hz8 hz9; refine (ledger_End.callsS k Ah ch lh p.f0 paid le ne 0 _ HRh.out HCh.out HFg.out).mono ?_; rintro e w10 ⟨v, rfl, ho, hb⟩; clear HFg; replace HB := Aside0.mk (below_then HB.out HB.out.size hb); replace KP := Aside0.mk (blk_below KP.out hb); replace HRm := Aside0.mk (Kd.C_below HRm.out hb); replace HRh := Aside0.mk (Kd.C_below HRh.out hb); replace HRd := Aside0.mk (Kd.C_below HRd.out hb); obtain ⟨Ae, ce, hv, hcl, hC⟩ := ho.reads; subst hv; have HCe := Aside0.mk hcl; have HRe := Aside0.mk hC; clear hcl hC; clear hb ho) | (go_at_call 82; refine (payment_Agree.calls k Ad cd ld Ae ce le true 0 _ HRd.out HCd.out HRe.out HCe.out HFq.out).mono ?_; rintro e w11 ⟨rfl, hb⟩; clear HFq; replace HB := Aside0.mk (below_then HB.out HB.out.size hb); replace KP := Aside0.mk (blk_below KP.out hb); replace HRm := Aside0.mk (Kd.C_below HRm.out hb); replace HRh := Aside0.mk (Kd.C_below HRh.out hb); replace HRd := Aside0.mk (Kd.C_below HRd.out hb); replace HRe := Aside0.mk (Kd.C_below HRe.out hb); obtain ⟨hz0, hz1, hz2, hz3, hz4, hz5, hz6, hz7, hz8, hz9⟩ := cz5_ KP.out; clear hb))
  go_ret
  exact ⟨rfl, HB.out⟩
theorem damsonlaw13_PaymentHolds.calls (k : Nat) (A0 : Option Addr) (c0 : Nat) (l : List S74) (A1 : Option Addr) (c1 : Nat) (o : List S25) (a2_0 a2_1 a2_2 a2_3 a2_4 : Int) (paid : Bool) (r : Bool) (w : World) (hr0 : Kd.C k74 w A0 l.length l) (hc0 : l.length ≤ c0) (hr1 : Kd.C k25 w A1 o.length o) (hc1 : o.length ≤ c1) (h : damsonlaw13_PaymentHolds.f k l o a2_0 a2_1 a2_2 a2_3 a2_4 paid = some r) :
    Calls Try.prog 20 #[.slice A0 l.length c0, .slice A1 o.length c1, .agg #[.int .u64 a2_0, .int .u64 a2_1, .int .u64 a2_2, .int .u64 a2_3, .int .i64 a2_4], .bool paid] w fun e w' => e = .returned (.bool r) ∧ Below w.heap.size w w' :=
  damsonlaw13_PaymentHolds.callsS k A0 c0 l A1 c1 o ⟨a2_0, a2_1, a2_2, a2_3, a2_4⟩ paid r w hr0 hc0 hr1 hc1 h


/-- THE ONE PURE STATEMENT of damsonlaw13_PaymentHolds: yours. -/
def damsonlaw13_PaymentHolds.Pure : Prop := ∀ (l0 : List (S74)) (l1 : List (S25)) (s2 : S74) (a3 : Bool), (l0.length ≤ 9223372036854775807 ∧ ∀ y_ ∈ l0, G74 y_) → (l1.length ≤ 9223372036854775807 ∧ ∀ y_ ∈ l1, G25 y_) → G74 s2 → ∃ k, damsonlaw13_PaymentHolds.f k l0 l1 (s2.f0) (s2.f1) (s2.f2) (s2.f3) (s2.f4) a3 = some true
theorem damsonlaw13_PaymentHolds.walk (P : damsonlaw13_PaymentHolds.Pure) (w : World) (l0 : List (S74)) (A0 : Option Addr) (c0 : Nat) (hr0 : Kd.C k74 w A0 l0.length l0) (hc0 : l0.length ≤ c0) (g0 : l0.length ≤ 9223372036854775807 ∧ ∀ y_ ∈ l0, G74 y_) (l1 : List (S25)) (A1 : Option Addr) (c1 : Nat) (hr1 : Kd.C k25 w A1 l1.length l1) (hc1 : l1.length ≤ c1) (g1 : l1.length ≤ 9223372036854775807 ∧ ∀ y_ ∈ l1, G25 y_) (s2 : S74) (g2 : G74 s2) (a3 : Bool) :
    Calls Try.prog 20 #[.slice A0 l0.length c0, .slice A1 l1.length c1, .agg #[.int .u64 (s2.f0), .int .u64 (s2.f1), .int .u64 (s2.f2), .int .u64 (s2.f3), .int .i64 (s2.f4)], .bool a3] w fun e w' => e = .returned (.bool true) ∧ Below w.heap.size w w' := by
  obtain ⟨k, h⟩ := P l0 l1 s2 a3 g0 g1 g2
  refine (damsonlaw13_PaymentHolds.calls k A0 c0 l0 A1 c1 l1 (s2.f0) (s2.f1) (s2.f2) (s2.f3) (s2.f4) a3 true w hr0 hc0 hr1 hc1 h).mono ?_
  rintro e w' ⟨rfl, hd⟩
  exact ⟨rfl, hd⟩
end Go.Proofs.Ytcfbcoinbecdfaa.P
