-- written by a program of this session (wip/print)
import Derived.Test.YtcfbcoinbecdfaaQLdoesx0
import Derived.Test.YtcfbcoinbecdfaaQLdoesx11
import Derived.Test.YtcfbcoinbecdfaaQLdoesx12
import Derived.Test.YtcfbcoinbecdfaaQLdoesx13
import Derived.Test.YtcfbcoinbecdfaaQLdoesx14
import Derived.Test.YtcfbcoinbecdfaaQLdoesx15
import Derived.Test.YtcfbcoinbecdfaaQLdoesx16
namespace Go.Proofs.Ytcfbcoinbecdfaa.P
open Go.RowKit Go.Proofs.YtcfbcoinbecdfaaW.PrintWords Go.Proofs.YtcfbcoinbecdfaaW.PrintLast Go.Proofs.YtcfbcoinbecdfaaW.PrintMore
attribute [local go_sem] max2_int min2_int max_two min_two max_three min_three max_four min_four run_sub64_   -- for this text's walks alone
set_option linter.unusedVariables false
set_option linter.unusedSimpArgs false

/-! ### damsonref09_Hold: function 39 (by hand) -/
def damsonref09_Hold.P (id : Int) (x : S44) : Bool := decide (x.f0 < id)
def damsonref09_Hold.Q (id : Int) (x : S44) : Bool := decide (id < x.f0)
def damsonref09_Hold.m (c : S25) (id n h : Int) : Option (S25 × Int) := if c.f5.length = 64 then some (z25, 7) else if c.f1 < c.f3 then some (z25, 9) else if IntKind.u64.wrap (c.f1 - c.f3) < n then some (z25, 9) else if IntKind.u64.wrap (c.f4 - h) < n then some (z25, 8) else
  if c.f5.length ≤ 100000 then some (⟨c.f0, IntKind.u64.wrap (c.f1 - n), c.f2, c.f3, c.f4, c.f5.filter (damsonref09_Hold.P id) ++ ⟨id, n⟩ :: c.f5.filter (damsonref09_Hold.Q id), c.f6⟩, 0) else none
def damsonref09_Hold.g (k : Nat) (c : S25) (id n : Int) : Option (S25 × Int) := (damsonref09_Held.f k c.f0 c.f1 c.f2 c.f3 c.f4 c.f5 c.f6).bind fun h => if h.2 = 0 then (if n = 0 then some (z25, 1) else (damsonref04_Check.f k [n]).bind fun e => if e = 0 then
  (if c.f6 = true then (damsonref09_find.f k c.f5 id).bind fun p => if p.2.2 = true then some (z25, 6) else damsonref09_Hold.m c id n h.1 else some (z25, 14)) else some (z25, 1)) else some (z25, 1)
def damsonref09_Hold.f (k : Nat) (a0_0 : Int) (a0_1 : Int) (a0_2 : Int) (a0_3 : Int) (a0_4 : Int) (l0_5 : List (S44)) (a0_6 : Bool) (a1 a2 : Int) : Option (Int × Int × Int × Int × Int × List S44 × Bool × Int) := (damsonref09_Hold.g k ⟨a0_0, a0_1, a0_2, a0_3, a0_4, l0_5, a0_6⟩ a1 a2).bind fun r => some (r.1.f0, r.1.f1, r.1.f2, r.1.f3, r.1.f4, r.1.f5, r.1.f6, r.2)
theorem one_C (w : World) (n : Int) : Kd.C (Kd.int .u64) (w.alloc (.cells #[.int .u64 n] 22)) (some ⟨w.heap.size, 0, none⟩) ([n] : List Int).length [n] := by
  refine ⟨rfl, (show (1 : Nat) ≤ 9223372036854775807 by decide), fun _ => ⟨_, rfl, fun j p hj => ?_⟩⟩
  match j with
  | 0 =>
    obtain rfl : n = p := by simpa using hj
    refine ⟨[.int .u64 n], rfl, rfl, fun i u hi => ?_⟩
    cases i with
    | zero =>
      obtain rfl : Value.int .u64 n = u := by simpa using hi
      rw [add_plain, blk_cell (blk_new w _)]
      rfl
    | succ i => simp at hi
  | j + 1 => simp at hj
theorem damsonref09_Hold.mono : ∀ a0 a1 a2 a3 a4 a5 a6 a7 a8 k, LeO (damsonref09_Hold.f k a0 a1 a2 a3 a4 a5 a6 a7 a8) (damsonref09_Hold.f (k + 1) a0 a1 a2 a3 a4 a5 a6 a7 a8) := by
  intro a0 a1 a2 a3 a4 a5 a6 a7 a8 k
  unfold damsonref09_Hold.f damsonref09_Hold.g
  repeat' first
    | (with_reducible exact LeO.refl _)
    | apply damsonref09_Held.mono
    | apply damsonref04_Check.mono
    | apply damsonref09_find.mono
    | (with_reducible refine LeO.ite ?_ ?_)
    | (with_reducible refine LeO.bind ?_ (fun _ => ?_))
set_option maxHeartbeats 16000000 in
set_option maxRecDepth 100000 in
theorem damsonref09_Hold.callsS (k : Nat) (c : S25) (A0 : Option Addr) (c0 : Nat) (id n : Int) (d : S25) (er : Int) (w : World) (hr0 : Kd.C k44 w A0 c.f5.length c.f5) (hc0 : c.f5.length ≤ c0) (h : damsonref09_Hold.g k c id n = some (d, er)) :
    Calls Try.prog 39 #[.agg #[.int .u64 c.f0, .int .u64 c.f1, .int .u64 c.f2, .int .u64 c.f3, .int .u64 c.f4, .slice A0 c.f5.length c0, .bool c.f6], .int .u64 id, .int .u64 n] w fun e w' => ∃ v5_ : Value, e = .returned (.tuple #[.agg #[.int .u64 d.f0, .int .u64 d.f1, .int .u64 d.f2, .int .u64 d.f3, .int .u64 d.f4, v5_, .bool d.f6], .int .i64 er]) ∧ Kd.R k44 44 w' w.heap.size (fun _ => True) v5_ d.f5 ∧ Below w.heap.size w w' := by
  have HR0 := aM_ hr0
  have HC0 := aM_ hc0
  clear hr0 hc0
  have HB := aM_ (((Below.refl w.heap.size w).alloc (Nat.le_refl _) (.cells #[.int .u64 c.f0, .int .u64 c.f1, .int .u64 c.f2, .int .u64 c.f3, .int .u64 c.f4, .slice A0 c.f5.length c0, .bool c.f6] 25)).alloc (by simp) (.cells #[.int .u64 0, .int .u64 0, .int .u64 0, .int .u64 0, .int .u64 0, .slice none 0 0, .bool false] 25))
  have HK := aM_ (blk_alloc (blk_new w (.cells #[.int .u64 c.f0, .int .u64 c.f1, .int .u64 c.f2, .int .u64 c.f3, .int .u64 c.f4, .slice A0 c.f5.length c0, .bool c.f6] 25)) (.cells #[.int .u64 0, .int .u64 0, .int .u64 0, .int .u64 0, .int .u64 0, .slice none 0 0, .bool false] 25))
  have HZ := aM_ (blk_new2 w (.cells #[.int .u64 c.f0, .int .u64 c.f1, .int .u64 c.f2, .int .u64 c.f3, .int .u64 c.f4, .slice A0 c.f5.length c0, .bool c.f6] 25) (.cells #[.int .u64 0, .int .u64 0, .int .u64 0, .int .u64 0, .int .u64 0, .slice none 0 0, .bool false] 25))
  unfold damsonref09_Hold.g at h
  obtain ⟨⟨hh, he⟩, h1, h_⟩ := oB_ h
  replace h := h_
  clear h_
  have HF1 := aM_ h1
  clear h1
  dsimp only at h
  by_cases hx : he = 0
  case neg =>
    rw [if_neg hx] at h
    have hxb : (he != 0) = true := bne_iff_ne.mpr hx
    clear hx
    injection h with h
    simp only [Prod.mk.injEq] at h
    obtain ⟨rfl, rfl⟩ := h
    go_enter Try.func39, Try.ntmps39
    go_wp2_with (((go_at_call 29; refine (damsonref09_Held.calls k c.f0 c.f1 c.f2 c.f3 c.f4 A0 c0 c.f5 c.f6 hh he _ (Kd.C_below HR0.out HB.out) HC0.out HF1.out).mono ?_; rintro e w1 ⟨rfl, hb⟩; clear HF1; replace HB := aM_ (below_then HB.out HB.out.size hb); replace HK := aM_ (blk_below HK.out hb); replace HZ := aM_ (blk_below HZ.out hb); have HZF := HZ; have HBF := HB; obtain ⟨hy0, hy1, hy2, hy3, hy4, hy5, hy6, hy7, hy8, hy9, hy10, hy11, hy12, hy13⟩ := cz7_ HZ.out; clear hb)))
    refine bodyPost_ret (results_ct rfl _ _ (w.heap.size + 1) 25 #[.int .u64 0, .int .u64 0, .int .u64 0, .int .u64 0, .int .u64 0, .slice none 0 0, .bool false] (0, 0) _ rfl (zero7_self HZF.out) Try.underlying25 rfl (by kernel_rfl)) rfl ?_
    exact ⟨_, rfl, Kd.R_nil _ _ _ _ _, zero7_below HBF.out (Nat.le_succ _)⟩
  subst hx
  rw [if_pos rfl] at h
  by_cases hn : n = 0
  · rw [if_pos hn] at h
    have hnb : (n == 0) = true := beq_iff_eq.mpr hn
    clear hn
    injection h with h
    simp only [Prod.mk.injEq] at h
    obtain ⟨rfl, rfl⟩ := h
    go_enter Try.func39, Try.ntmps39
    go_wp2_with (((go_at_call 29; refine (damsonref09_Held.calls k c.f0 c.f1 c.f2 c.f3 c.f4 A0 c0 c.f5 c.f6 hh 0 _ (Kd.C_below HR0.out HB.out) HC0.out HF1.out).mono ?_; rintro e w1 ⟨rfl, hb⟩; clear HF1; replace HB := aM_ (below_then HB.out HB.out.size hb); replace HK := aM_ (blk_below HK.out hb); replace HZ := aM_ (blk_below HZ.out hb); have HZF := HZ; have HBF := HB; obtain ⟨hy0, hy1, hy2, hy3, hy4, hy5, hy6, hy7, hy8, hy9, hy10, hy11, hy12, hy13⟩ := cz7_ HZ.out; clear hb)))
    refine bodyPost_ret (results_ct rfl _ _ (w.heap.size + 1) 25 #[.int .u64 0, .int .u64 0, .int .u64 0, .int .u64 0, .int .u64 0, .slice none 0 0, .bool false] (0, 0) _ rfl (zero7_self HZF.out) Try.underlying25 rfl (by kernel_rfl)) rfl ?_
    exact ⟨_, rfl, Kd.R_nil _ _ _ _ _, zero7_below HBF.out (Nat.le_succ _)⟩
  rw [if_neg hn] at h
  have hnb : (n == 0) = false := beq_eq_false_iff_ne.mpr hn
  clear hn
  obtain ⟨ce, h1, h_⟩ := oB_ h
  replace h := h_
  clear h_
  have HF2 := aM_ h1
  clear h1
  by_cases hx : ce = 0
  case neg =>
    rw [if_neg hx] at h
    have hxb : (ce != 0) = true := bne_iff_ne.mpr hx
    clear hx
    injection h with h
    simp only [Prod.mk.injEq] at h
    obtain ⟨rfl, rfl⟩ := h
    go_enter Try.func39, Try.ntmps39
    go_wp2_with (first | (go_at_call 29; refine (damsonref09_Held.calls k c.f0 c.f1 c.f2 c.f3 c.f4 A0 c0 c.f5 c.f6 hh 0 _ (Kd.C_below HR0.out HB.out) HC0.out HF1.out).mono ?_; rintro e w1 ⟨rfl, hb⟩; clear HF1; replace HB := aM_ (below_then HB.out HB.out.size hb); replace HK := aM_ (blk_below HK.out hb); replace HZ := aM_ (blk_below HZ.out hb); clear hb) | (go_at_call 96; refine (damsonref04_Check.calls k (some ⟨w1.heap.size, 0, none⟩) 1 [n] ce _ (one_C w1 n) (Nat.le_refl _) HF2.out).mono ?_; rintro e w2 ⟨rfl, hd⟩; clear HF2; have hb := ((Below.refl w1.heap.size w1).alloc (Nat.le_refl _) (.cells #[.int .u64 n] 22)).trans (hd.below.mono (by simp)); replace HB := aM_ (below_then HB.out HB.out.size hb); replace HK := aM_ (blk_below HK.out hb); replace HZ := aM_ (blk_below HZ.out hb); have HZF := HZ; have HBF := HB; obtain ⟨hy0, hy1, hy2, hy3, hy4, hy5, hy6, hy7, hy8, hy9, hy10, hy11, hy12, hy13⟩ := cz7_ HZ.out; clear hb hd))
    refine bodyPost_ret (results_ct rfl _ _ (w.heap.size + 1) 25 #[.int .u64 0, .int .u64 0, .int .u64 0, .int .u64 0, .int .u64 0, .slice none 0 0, .bool false] (0, 0) _ rfl (zero7_self HZF.out) Try.underlying25 rfl (by kernel_rfl)) rfl ?_
    exact ⟨_, rfl, Kd.R_nil _ _ _ _ _, zero7_below HBF.out (Nat.le_succ _)⟩
  subst hx
  rw [if_pos rfl] at h
  go_enter Try.func39, Try.ntmps39
  go_upto_region 4 with (first | (go_at_call 29; refine (damsonref09_Held.calls k c.f0 c.f1 c.f2 c.f3 c.f4 A0 c0 c.f5 c.f6 hh 0 _ (Kd.C_below HR0.out HB.out) HC0.out HF1.out).mono ?_; rintro e w1 ⟨rfl, hb⟩; clear HF1; replace HB := aM_ (below_then HB.out HB.out.size hb); replace HK := aM_ (blk_below HK.out hb); replace HZ := aM_ (blk_below HZ.out hb); clear hb) | (go_at_call 96; refine (damsonref04_Check.calls k (some ⟨w1.heap.size, 0, none⟩) 1 [n] 0 _ (one_C w1 n) (Nat.le_refl _) HF2.out).mono ?_; rintro e w2 ⟨rfl, hd⟩; clear HF2; have hb := ((Below.refl w1.heap.size w1).alloc (Nat.le_refl _) (.cells #[.int .u64 n] 22)).trans (hd.below.mono (by simp)); replace HB := aM_ (below_then HB.out HB.out.size hb); replace HK := aM_ (blk_below HK.out hb); replace HZ := aM_ (blk_below HZ.out hb); obtain ⟨hz0, hz1, hz2, hz3, hz4, hz5, hz6, hz7, hz8, hz9, hz10, hz11, hz12, hz13⟩ := cz7_ HK.out; clear hb hd))
  by_cases hop : c.f6 = true
  case neg =>
    rw [if_neg hop] at h
    have hop2 : c.f6 = false := by simpa using hop
    clear hop
    injection h with h
    simp only [Prod.mk.injEq] at h
    obtain ⟨rfl, rfl⟩ := h
    have _hy := HZ
    obtain ⟨hy0, hy1, hy2, hy3, hy4, hy5, hy6, hy7, hy8, hy9, hy10, hy11, hy12, hy13⟩ := cz7_ HZ.out
    go_wp2
    refine bodyPost_ret (results_ct rfl _ _ (w.heap.size + 1) 25 #[.int .u64 0, .int .u64 0, .int .u64 0, .int .u64 0, .int .u64 0, .slice none 0 0, .bool false] (0, 0) _ rfl (zero7_self HZ.out) Try.underlying25 rfl (by kernel_rfl)) rfl ?_
    exact ⟨_, rfl, Kd.R_nil _ _ _ _ _, zero7_below HB.out (Nat.le_succ _)⟩
  rw [if_pos hop] at h
  obtain ⟨⟨p1, p2, p3⟩, h1, h_⟩ := oB_ h
  replace h := h_
  clear h_
  have HF3 := aM_ h1
  clear h1
  dsimp only at h
  go_upto_region 7 with (((go_at_call 97; refine (damsonref09_find.calls k A0 c0 c.f5 id p1 p2 p3 _ (Kd.C_below HR0.out HB.out) HC0.out HF3.out).mono ?_; rintro e w3 ⟨rfl, hb⟩; clear HF3; replace HB := aM_ (below_then HB.out HB.out.size hb); replace HK := aM_ (blk_below HK.out hb); replace HZ := aM_ (blk_below HZ.out hb); have HOP := aM_ hop; clear hop; clear hz0 hz1 hz2 hz3 hz4 hz5 hz6 hz7 hz8 hz9 hz10 hz11 hz12 hz13; have hlt := blk_lt HZ.out; clear hb)))
  have hal := (Below.refl w3.heap.size w3).alloc (Nat.le_refl _) (.cells #[.int .u64 p1, .int .u64 p2] 44)
  replace HB := aM_ (below_then HB.out HB.out.size hal)
  replace HK := aM_ (blk_below HK.out hal)
  replace HZ := aM_ (blk_below HZ.out hal)
  clear hal hlt
  generalize w3.alloc (.cells #[.int .u64 p1, .int .u64 p2] 44) = w4 at HB HK HZ ⊢
  generalize w3.heap.size = g0 at ⊢
  obtain ⟨hz0, hz1, hz2, hz3, hz4, hz5, hz6, hz7, hz8, hz9, hz10, hz11, hz12, hz13⟩ := cz7_ HK.out
  cases p3 with
  | true =>
    rw [if_pos rfl] at h
    injection h with h
    simp only [Prod.mk.injEq] at h
    obtain ⟨rfl, rfl⟩ := h
    obtain ⟨hy0, hy1, hy2, hy3, hy4, hy5, hy6, hy7, hy8, hy9, hy10, hy11, hy12, hy13⟩ := cz7_ HZ.out
    go_wp2
    refine bodyPost_ret (results_ct rfl _ _ (w.heap.size + 1) 25 #[.int .u64 0, .int .u64 0, .int .u64 0, .int .u64 0, .int .u64 0, .slice none 0 0, .bool false] (0, 0) _ rfl (zero7_self HZ.out) Try.underlying25 rfl (by kernel_rfl)) rfl ?_
    exact ⟨_, rfl, Kd.R_nil _ _ _ _ _, zero7_below HB.out (Nat.le_succ _)⟩
  | false =>
  rw [if_neg (by decide)] at h
  unfold damsonref09_Hold.m at h
  by_cases h64 : c.f5.length = 64
  · rw [if_pos h64] at h
    have h64b : ((c.f5.length : Int) == 64) = true := by rw [h64]; rfl
    have h64n : (c.f5.length == 64) = true := by rw [h64]; rfl
    clear h64
    injection h with h
    simp only [Prod.mk.injEq] at h
    obtain ⟨rfl, rfl⟩ := h
    obtain ⟨hy0, hy1, hy2, hy3, hy4, hy5, hy6, hy7, hy8, hy9, hy10, hy11, hy12, hy13⟩ := cz7_ HZ.out
    go_wp2
    refine bodyPost_ret (results_ct rfl _ _ (w.heap.size + 1) 25 #[.int .u64 0, .int .u64 0, .int .u64 0, .int .u64 0, .int .u64 0, .slice none 0 0, .bool false] (0, 0) _ rfl (zero7_self HZ.out) Try.underlying25 rfl (by kernel_rfl)) rfl ?_
    exact ⟨_, rfl, Kd.R_nil _ _ _ _ _, zero7_below HB.out (Nat.le_succ _)⟩
  rw [if_neg h64] at h
  have h64b : ((c.f5.length : Int) == 64) = false := beq_eq_false_iff_ne.mpr (by omega)
  have h64n : (c.f5.length == 64) = false := beq_eq_false_iff_ne.mpr h64
  clear h64
  by_cases hq1 : c.f1 < c.f3
  · rw [if_pos hq1] at h
    have hq1b : decide (c.f1 < c.f3) = true := decide_eq_true hq1
    clear hq1
    injection h with h
    simp only [Prod.mk.injEq] at h
    obtain ⟨rfl, rfl⟩ := h
    obtain ⟨hy0, hy1, hy2, hy3, hy4, hy5, hy6, hy7, hy8, hy9, hy10, hy11, hy12, hy13⟩ := cz7_ HZ.out
    go_wp2
    refine bodyPost_ret (results_ct rfl _ _ (w.heap.size + 1) 25 #[.int .u64 0, .int .u64 0, .int .u64 0, .int .u64 0, .int .u64 0, .slice none 0 0, .bool false] (0, 0) _ rfl (zero7_self HZ.out) Try.underlying25 rfl (by kernel_rfl)) rfl ?_
    exact ⟨_, rfl, Kd.R_nil _ _ _ _ _, zero7_below HB.out (Nat.le_succ _)⟩
  rw [if_neg hq1] at h
  have hq1b : decide (c.f1 < c.f3) = false := decide_eq_false hq1
  clear hq1
  by_cases hq2 : IntKind.u64.wrap (c.f1 - c.f3) < n
  · rw [if_pos hq2] at h
    have hq2b : decide (IntKind.u64.wrap (c.f1 - c.f3) < n) = true := decide_eq_true hq2
    clear hq2
    injection h with h
    simp only [Prod.mk.injEq] at h
    obtain ⟨rfl, rfl⟩ := h
    obtain ⟨hy0, hy1, hy2, hy3, hy4, hy5, hy6, hy7, hy8, hy9, hy10, hy11, hy12, hy13⟩ := cz7_ HZ.out
    go_wp2
    refine bodyPost_ret (results_ct rfl _ _ (w.heap.size + 1) 25 #[.int .u64 0, .int .u64 0, .int .u64 0, .int .u64 0, .int .u64 0, .slice none 0 0, .bool false] (0, 0) _ rfl (zero7_self HZ.out) Try.underlying25 rfl (by kernel_rfl)) rfl ?_
    exact ⟨_, rfl, Kd.R_nil _ _ _ _ _, zero7_below HB.out (Nat.le_succ _)⟩
  rw [if_neg hq2] at h
  have hq2b : decide (IntKind.u64.wrap (c.f1 - c.f3) < n) = false := decide_eq_false hq2
  clear hq2
  by_cases hq3 : IntKind.u64.wrap (c.f4 - hh) < n
  · rw [if_pos hq3] at h
    have hq3b : decide (IntKind.u64.wrap (c.f4 - hh) < n) = true := decide_eq_true hq3
    clear hq3
    injection h with h
    simp only [Prod.mk.injEq] at h
    obtain ⟨rfl, rfl⟩ := h
    obtain ⟨hy0, hy1, hy2, hy3, hy4, hy5, hy6, hy7, hy8, hy9, hy10, hy11, hy12, hy13⟩ := cz7_ HZ.out
    go_wp2
    refine bodyPost_ret (results_ct rfl _ _ (w.heap.size + 1) 25 #[.int .u64 0, .int .u64 0, .int .u64 0, .int .u64 0, .int .u64 0, .slice none 0 0, .bool false] (0, 0) _ rfl (zero7_self HZ.out) Try.underlying25 rfl (by kernel_rfl)) rfl ?_
    exact ⟨_, rfl, Kd.R_nil _ _ _ _ _, zero7_below HB.out (Nat.le_succ _)⟩
  rw [if_neg hq3] at h
  have hq3b : decide (IntKind.u64.wrap (c.f4 - hh) < n) = false := decide_eq_false hq3
  clear hq3
  by_cases hlen : c.f5.length ≤ 100000
  case neg => rw [if_neg hlen] at h; cases h
  rw [if_pos hlen] at h
  injection h with h
  simp only [Prod.mk.injEq] at h
  obtain ⟨rfl, rfl⟩ := h
  have hlt := blk_lt HK.out
  go_wp2
  clear hlt h64b h64n hq1b hq2b hq3b
  have hal := (Below.refl w4.heap.size w4).alloc (Nat.le_refl _) (.cells #[.int .u64 c.f0, .int .u64 (IntKind.u64.wrap (c.f1 - n)), .int .u64 c.f2, .int .u64 c.f3, .int .u64 c.f4, .slice none 0 0, .bool c.f6] 25)
  have HO := aM_ (blk_new w4 (.cells #[.int .u64 c.f0, .int .u64 (IntKind.u64.wrap (c.f1 - n)), .int .u64 c.f2, .int .u64 c.f3, .int .u64 c.f4, .slice none 0 0, .bool c.f6] 25))
  have HG2 : Aside0 (w.heap.size + 1 < w4.heap.size) := ⟨blk_lt HZ.out⟩
  have HBASE : Aside0 (w4.heap.size + 1 ≤ (w4.alloc (.cells #[.int .u64 c.f0, .int .u64 (IntKind.u64.wrap (c.f1 - n)), .int .u64 c.f2, .int .u64 c.f3, .int .u64 c.f4, .slice none 0 0, .bool c.f6] 25)).heap.size) := ⟨by simp⟩
  replace HB := aM_ (below_then HB.out HB.out.size hal)
  replace HK := aM_ (blk_below HK.out hal)
  replace HZ := aM_ (blk_below HZ.out hal)
  clear hal hz0 hz1 hz2 hz3 hz4 hz5 hz6 hz7 hz8 hz9 hz10 hz11 hz12 hz13
  generalize w4.alloc (.cells #[.int .u64 c.f0, .int .u64 (IntKind.u64.wrap (c.f1 - n)), .int .u64 c.f2, .int .u64 c.f3, .int .u64 c.f4, .slice none 0 0, .bool c.f6] 25) = w5 at HB HK HZ HO HBASE ⊢
  generalize hg : w4.heap.size = g3 at HO HG2 HBASE ⊢
  clear hg
  obtain ⟨base, hbase⟩ : ∃ base, base = g3 + 1 := ⟨_, rfl⟩
  have HB2 := aM_ hbase
  rw [← hbase] at HBASE
  clear hbase
  go_loopw [85] (fun vi wr => ∃ (i : Nat) (vo : Value) (xs : List S44), i ≤ c.f5.length ∧ vi = .int .i64 i ∧ Aside0 (xs = (c.f5.take i).filter (damsonref09_Hold.P id)) ∧ Aside0 (Kd.R k44 44 wr base (fun k_ => base ≤ k_) vo xs) ∧ Aside0 (Below w.heap.size w wr) ∧ Aside0 (wr.heap[w.heap.size]? = some (.cells #[.int .u64 c.f0, .int .u64 c.f1, .int .u64 c.f2, .int .u64 c.f3, .int .u64 c.f4, .slice A0 c.f5.length c0, .bool c.f6] 25 (0, 0))) ∧ Aside0 (wr.heap[w.heap.size + 1]? = some (.cells #[.int .u64 0, .int .u64 0, .int .u64 0, .int .u64 0, .int .u64 0, .slice none 0 0, .bool false] 25 (0, 0))) ∧ Aside0 (wr.heap[g3]? = some (.cells #[.int .u64 c.f0, .int .u64 (IntKind.u64.wrap (c.f1 - n)), .int .u64 c.f2, .int .u64 c.f3, .int .u64 c.f4, vo, .bool c.f6] 25 (0, 0))) ∧ Aside0 (base ≤ wr.heap.size)) (fun vi _ => c.f5.length - (intOf vi).toNat)
  case atStart => exact ⟨0, _, [], Nat.zero_le _, rfl, ⟨by rw [List.take_zero, List.filter_nil]⟩, ⟨Kd.R_nil _ _ _ _ _⟩, HB, HK, HZ, HO, HBASE⟩
  case round =>
   clear HB HK HZ HO HBASE
   obtain ⟨i, vo, xs, hi, rfl, HXS, HR, HB, HK, HZ, HO, HBASE⟩ := hrel
   obtain ⟨Ao, co, hvo⟩ := Kd.R_slice HR.out
   subst hvo
   by_cases hil : i < c.f5.length
   · obtain ⟨ad, ea, hx0, hx1⟩ := at_T44 HR0.out (i : Int) (by omega) (by omega)
     subst ea
     have hft := filter_take44 (damsonref09_Hold.P id) hil
     obtain ⟨x, hx⟩ : ∃ x, x = rd_T44 c.f5 (i : Int) := ⟨_, rfl⟩
     simp only [← hx, Int.toNat_natCast] at hx0 hx1 hft
     clear hx
     replace hx0 := cN_ HB hx0
     replace hx1 := cN_ HB hx1
     have hal := (Below.refl wr.heap.size wr).alloc (Nat.le_refl _) (.cells #[.int .u64 x.f0, .int .u64 x.f1] 44)
     have hlen2 : xs.length ≤ 300000 := by
       rw [HXS.out]
       have h1 := List.length_filter_le (damsonref09_Hold.P id) c.f5
       have h2 := List.length_filter_le (damsonref09_Hold.P id) (c.f5.take i)
       rw [List.length_take] at h2
       omega
     have HLEN := aM_ hlen2
     clear hlen2
     by_cases hq : x.f0 < id
     case neg =>
       have hqb : decide (x.f0 < id) = false := decide_eq_false hq
       have hpx : damsonref09_Hold.P id x = false := hqb
       rw [if_neg (by rw [hpx]; decide), List.append_nil] at hft
       have HFT := aM_ hft
       have HAL := aM_ hal
       clear hq hpx hft hal
       go_wp2
       go_roundw
       case rel => exact ⟨i + 1, _, xs, by omega, by go_num, ⟨by rw [HFT.out]; exact HXS.out⟩, ⟨Kd.R_below HR.out HAL.out⟩, ⟨below_then HB.out HB.out.size HAL.out⟩, ⟨blk_below HK.out HAL.out⟩, ⟨blk_below HZ.out HAL.out⟩, ⟨blk_below HO.out HAL.out⟩, ⟨Nat.le_trans HBASE.out HAL.out.size⟩⟩
       case measure => simp [intOf]; omega
     · have hqb : decide (x.f0 < id) = true := decide_eq_true hq
       have hpx : damsonref09_Hold.P id x = true := hqb
       rw [if_pos hpx] at hft
       have HFT := aM_ hft
       have hlo : g3 < wr.heap.size := blk_lt HO.out
       obtain ⟨ho0, ho1, ho2, ho3, ho4, ho5, ho6, ho7, ho8, ho9, ho10, ho11, ho12, ho13⟩ := cz7_ HO.out
       have HRW := aM_ (Kd.R_below HR.out hal)
       replace HB := aM_ (below_then HB.out HB.out.size hal)
       replace HK := aM_ (blk_below HK.out hal)
       replace HZ := aM_ (blk_below HZ.out hal)
       replace HO := aM_ (blk_below HO.out hal)
       replace HBASE := aM_ (Nat.le_trans HBASE.out hal.size)
       clear hq hpx hft hal
       go_wp2_with ((((with_reducible refine gate_builtin (b := .append) (xs := #[.tmp 94, .tmp 96]) rfl ?_); at_builtin; refine Kd.R_append k44 (w0 := _) base rfl (.tmp 94) (.tmp 96) 23 44 (.agg #[(.int .u64 0), (.int .u64 0)]) 16 rfl Try.underlying23 info44 rfl (by decide) (by omega) (.slice Ao xs.length co) (xs) x [.int .u64 x.f0, .int .u64 x.f1] (fun k_ => base ≤ k_) (fun _ => False) rfl (by ((go_simp; done))) (k44_mkM _ _ _ x) (fun _ hk => hk.elim) (fun k_ hk => Nat.le_trans HBASE.out hk) HRW.out (Below.refl _ _) HBASE.out (by have := HLEN.out; omega) ?_; intro v1 w1 ho hb hg hat; obtain ⟨Av, cv, hv1⟩ := Kd.R_slice ho; subst hv1; have hlo2 := HB2.out; have hlo3 := HG2.out; replace HB := aM_ (HB.out.trans (hb.mono (by omega))); replace HK := aM_ (blk_low HK.out hb (by omega)); replace HZ := aM_ (blk_low HZ.out hb (by omega)); replace HO := aM_ (blk_low HO.out hb (by omega)); replace HBASE := aM_ (Nat.le_trans HBASE.out hb.size); rw [show (xs ++ [x]).length = xs.length + 1 from by simp] at ho; have HRN := aM_ ho; clear hlo2 hlo3 hlo HRW HR HLEN ho0 ho1 ho2 ho3 ho4 ho5 ho6 ho7 ho8 ho9 ho10 ho11 ho12 ho13; obtain ⟨hn0, hn1, hn2, hn3, hn4, hn5, hn6, hn7, hn8, hn9, hn10, hn11, hn12, hn13⟩ := cz7_ HO.out; clear ho hb hg hat)))
       go_roundw
       case rel => exact ⟨i + 1, _, xs ++ [x], by omega, by go_num, ⟨by rw [HFT.out, HXS.out]⟩, ⟨Kd.R_far (p := ⟨g3, 5, none⟩) HRN.out (fun k_ hk => by have := HB2.out; show k_ ≠ g3; omega) _⟩, ⟨HB.out.setCell (by have := HG2.out; show w.heap.size ≤ g3; omega) _⟩, ⟨blk_far HK.out (p := ⟨g3, 5, none⟩) (by have := HG2.out; show w.heap.size ≠ g3; omega) _⟩, ⟨blk_far HZ.out (p := ⟨g3, 5, none⟩) (by have := HG2.out; show w.heap.size + 1 ≠ g3; omega) _⟩, ⟨box5 HO.out _⟩, ⟨by simpa using HBASE.out⟩⟩
       case measure => simp [intOf]; omega
   · obtain rfl : i = c.f5.length := by omega
     rw [List.take_length] at HXS
     have hlo : g3 < wr.heap.size := blk_lt HO.out
     have hlk : w.heap.size < g3 := by have := HG2.out; omega
     have hlen2 : xs.length ≤ 100000 := by rw [HXS.out]; exact Nat.le_trans (List.length_filter_le _ _) hlen
     have HLEN := aM_ hlen2
     clear hlen2
     have HRW := HR
     obtain ⟨ho0, ho1, ho2, ho3, ho4, ho5, ho6, ho7, ho8, ho9, ho10, ho11, ho12, ho13⟩ := cz7_ HO.out
     obtain ⟨hk0, hk1, hk2, hk3, hk4, hk5, hk6, hk7, hk8, hk9, hk10, hk11, hk12, hk13⟩ := cz7_ HK.out
     go_wp2_with ((((with_reducible refine gate_builtin (b := .append) (xs := #[.tmp 101, .tmp 105]) rfl ?_); at_builtin; refine Kd.R_append k44 (w0 := _) base rfl (.tmp 101) (.tmp 105) 23 44 (.agg #[(.int .u64 0), (.int .u64 0)]) 16 rfl Try.underlying23 info44 rfl (by decide) (by omega) (.slice Ao xs.length co) (xs) (⟨id, n⟩ : S44) [.int .u64 id, .int .u64 n] (fun k_ => base ≤ k_) (fun _ => False) rfl (by ((go_simp; done))) (k44_mkM _ _ _ (⟨id, n⟩ : S44)) (fun _ hk => hk.elim) (fun k_ hk => Nat.le_trans HBASE.out hk) HRW.out (Below.refl _ _) HBASE.out (by have := HLEN.out; omega) ?_; intro v1 w1 ho hb hg hat; obtain ⟨Av, cv, hv1⟩ := Kd.R_slice ho; subst hv1; have hlo2 := HB2.out; have hlo3 := HG2.out; replace HB := aM_ (HB.out.trans (hb.mono (by omega))); replace HK := aM_ (blk_low HK.out hb (by omega)); replace HZ := aM_ (blk_low HZ.out hb (by omega)); replace HO := aM_ (blk_low HO.out hb (by omega)); replace HBASE := aM_ (Nat.le_trans HBASE.out hb.size); rw [show (xs ++ [(⟨id, n⟩ : S44)]).length = xs.length + 1 from by simp] at ho; have HRN := aM_ ho; clear hlo2 hlo3 hlo HRW HR HLEN ho0 ho1 ho2 ho3 ho4 ho5 ho6 ho7 ho8 ho9 ho10 ho11 ho12 ho13 hk0 hk1 hk2 hk3 hk4 hk5 hk6 hk7 hk8 hk9 hk10 hk11 hk12 hk13; obtain ⟨hn0, hn1, hn2, hn3, hn4, hn5, hn6, hn7, hn8, hn9, hn10, hn11, hn12, hn13⟩ := cz7_ HO.out; clear ho hb hg hat; obtain ⟨hk0, hk1, hk2, hk3, hk4, hk5, hk6, hk7, hk8, hk9, hk10, hk11, hk12, hk13⟩ := cz7_ HK.out)))
     have HR := aM_ (Kd.R_far (p := ⟨g3, 5, none⟩) HRN.out (fun k_ hk => by have := HB2.out; show k_ ≠ g3; omega) (.slice Av (xs.length + 1) cv))
     replace HB := aM_ (HB.out.setCell (p := ⟨g3, 5, none⟩) (by have := HG2.out; show w.heap.size ≤ g3; omega) (.slice Av (xs.length + 1) cv))
     replace HK := aM_ (blk_far HK.out (p := ⟨g3, 5, none⟩) (by have := HG2.out; show w.heap.size ≠ g3; omega) (.slice Av (xs.length + 1) cv))
     replace HZ := aM_ (blk_far HZ.out (p := ⟨g3, 5, none⟩) (by have := HG2.out; show w.heap.size + 1 ≠ g3; omega) (.slice Av (xs.length + 1) cv))
     replace HO := aM_ (box5 HO.out (.slice Av (xs.length + 1) cv))
     replace HBASE : Aside0 (base ≤ (w1.setCell ⟨g3, 5, none⟩ (.slice Av (xs.length + 1) cv)).heap.size) := ⟨by simpa using HBASE.out⟩
     clear HRN hlk
     generalize w1.setCell ⟨g3, 5, none⟩ (.slice Av (xs.length + 1) cv) = w6 at HR HB HK HZ HO HBASE ⊢
     clear hk0 hn0 hk1 hn1 hk2 hn2 hk3 hn3 hk4 hn4 hk5 hn5 hk6 hn6 hk7 hn7 hk8 hn8 hk9 hn9 hk10 hn10 hk11 hn11 hk12 hn12 hk13 hn13
     go_loopw [111] (fun vi wr => ∃ (i : Nat) (vo : Value) (xs : List S44), i ≤ c.f5.length ∧ vi = .int .i64 i ∧ Aside0 (xs = (c.f5.filter (damsonref09_Hold.P id) ++ [(⟨id, n⟩ : S44)]) ++ (c.f5.take i).filter (damsonref09_Hold.Q id)) ∧ Aside0 (Kd.R k44 44 wr base (fun k_ => base ≤ k_) vo xs) ∧ Aside0 (Below w.heap.size w wr) ∧ Aside0 (wr.heap[w.heap.size]? = some (.cells #[.int .u64 c.f0, .int .u64 c.f1, .int .u64 c.f2, .int .u64 c.f3, .int .u64 c.f4, .slice A0 c.f5.length c0, .bool c.f6] 25 (0, 0))) ∧ Aside0 (wr.heap[w.heap.size + 1]? = some (.cells #[.int .u64 0, .int .u64 0, .int .u64 0, .int .u64 0, .int .u64 0, .slice none 0 0, .bool false] 25 (0, 0))) ∧ Aside0 (wr.heap[g3]? = some (.cells #[.int .u64 c.f0, .int .u64 (IntKind.u64.wrap (c.f1 - n)), .int .u64 c.f2, .int .u64 c.f3, .int .u64 c.f4, vo, .bool c.f6] 25 (0, 0))) ∧ Aside0 (base ≤ wr.heap.size)) (fun vi _ => c.f5.length - (intOf vi).toNat)
     case atStart => exact ⟨0, _, xs ++ [⟨id, n⟩], Nat.zero_le _, rfl, ⟨by rw [List.take_zero, List.filter_nil, List.append_nil, HXS.out]⟩, HR, HB, HK, HZ, HO, HBASE⟩
     case round =>
      clear HB HK HZ HO HBASE HR HXS
      obtain ⟨i, vo, xs, hi, rfl, HXS, HR, HB, HK, HZ, HO, HBASE⟩ := hrel
      obtain ⟨Ao, co, hvo⟩ := Kd.R_slice HR.out
      subst hvo
      by_cases hil : i < c.f5.length
      · obtain ⟨ad, ea, hx0, hx1⟩ := at_T44 HR0.out (i : Int) (by omega) (by omega)
        subst ea
        have hft := filter_take44 (damsonref09_Hold.Q id) hil
        obtain ⟨x, hx⟩ : ∃ x, x = rd_T44 c.f5 (i : Int) := ⟨_, rfl⟩
        simp only [← hx, Int.toNat_natCast] at hx0 hx1 hft
        clear hx
        replace hx0 := cN_ HB hx0
        replace hx1 := cN_ HB hx1
        have hal := (Below.refl wr.heap.size wr).alloc (Nat.le_refl _) (.cells #[.int .u64 x.f0, .int .u64 x.f1] 44)
        have hlen2 : xs.length ≤ 300000 := by
          rw [HXS.out]
          have h1 := List.length_filter_le (damsonref09_Hold.P id) c.f5
          have h2 := List.length_filter_le (damsonref09_Hold.Q id) (c.f5.take i)
          rw [List.length_take] at h2
          (try simp only [List.length_append, List.length_cons, List.length_nil])
          omega
        have HLEN := aM_ hlen2
        clear hlen2
        by_cases hq : id < x.f0
        case neg =>
          have hqb : decide (id < x.f0) = false := decide_eq_false hq
          have hpx : damsonref09_Hold.Q id x = false := hqb
          rw [if_neg (by rw [hpx]; decide), List.append_nil] at hft
          have HFT := aM_ hft
          have HAL := aM_ hal
          clear hq hpx hft hal
          go_wp2
          go_roundw
          case rel => exact ⟨i + 1, _, xs, by omega, by go_num, ⟨by rw [HFT.out]; exact HXS.out⟩, ⟨Kd.R_below HR.out HAL.out⟩, ⟨below_then HB.out HB.out.size HAL.out⟩, ⟨blk_below HK.out HAL.out⟩, ⟨blk_below HZ.out HAL.out⟩, ⟨blk_below HO.out HAL.out⟩, ⟨Nat.le_trans HBASE.out HAL.out.size⟩⟩
          case measure => simp [intOf]; omega
        · have hqb : decide (id < x.f0) = true := decide_eq_true hq
          have hpx : damsonref09_Hold.Q id x = true := hqb
          rw [if_pos hpx] at hft
          have HFT := aM_ hft
          have hlo : g3 < wr.heap.size := blk_lt HO.out
          obtain ⟨ho0, ho1, ho2, ho3, ho4, ho5, ho6, ho7, ho8, ho9, ho10, ho11, ho12, ho13⟩ := cz7_ HO.out
          have HRW := aM_ (Kd.R_below HR.out hal)
          replace HB := aM_ (below_then HB.out HB.out.size hal)
          replace HK := aM_ (blk_below HK.out hal)
          replace HZ := aM_ (blk_below HZ.out hal)
          replace HO := aM_ (blk_below HO.out hal)
          replace HBASE := aM_ (Nat.le_trans HBASE.out hal.size)
          clear hq hpx hft hal
          go_wp2_with ((((with_reducible refine gate_builtin (b := .append) (xs := #[.tmp 120, .tmp 122]) rfl ?_); at_builtin; refine Kd.R_append k44 (w0 := _) base rfl (.tmp 120) (.tmp 122) 23 44 (.agg #[(.int .u64 0), (.int .u64 0)]) 16 rfl Try.underlying23 info44 rfl (by decide) (by omega) (.slice Ao xs.length co) (xs) x [.int .u64 x.f0, .int .u64 x.f1] (fun k_ => base ≤ k_) (fun _ => False) rfl (by ((go_simp; done))) (k44_mkM _ _ _ x) (fun _ hk => hk.elim) (fun k_ hk => Nat.le_trans HBASE.out hk) HRW.out (Below.refl _ _) HBASE.out (by have := HLEN.out; omega) ?_; intro v1 w1 ho hb hg hat; obtain ⟨Av, cv, hv1⟩ := Kd.R_slice ho; subst hv1; have hlo2 := HB2.out; have hlo3 := HG2.out; replace HB := aM_ (HB.out.trans (hb.mono (by omega))); replace HK := aM_ (blk_low HK.out hb (by omega)); replace HZ := aM_ (blk_low HZ.out hb (by omega)); replace HO := aM_ (blk_low HO.out hb (by omega)); replace HBASE := aM_ (Nat.le_trans HBASE.out hb.size); rw [show (xs ++ [x]).length = xs.length + 1 from by simp] at ho; have HRN := aM_ ho; clear hlo2 hlo3 hlo HRW HR HLEN ho0 ho1 ho2 ho3 ho4 ho5 ho6 ho7 ho8 ho9 ho10 ho11 ho12 ho13; obtain ⟨hn0, hn1, hn2, hn3, hn4, hn5, hn6, hn7, hn8, hn9, hn10, hn11, hn12, hn13⟩ := cz7_ HO.out; clear ho hb hg hat)))
          go_roundw
          case rel => exact ⟨i + 1, _, xs ++ [x], by omega, by go_num, ⟨by rw [HFT.out, HXS.out, List.append_assoc]⟩, ⟨Kd.R_far (p := ⟨g3, 5, none⟩) HRN.out (fun k_ hk => by have := HB2.out; show k_ ≠ g3; omega) _⟩, ⟨HB.out.setCell (by have := HG2.out; show w.heap.size ≤ g3; omega) _⟩, ⟨blk_far HK.out (p := ⟨g3, 5, none⟩) (by have := HG2.out; show w.heap.size ≠ g3; omega) _⟩, ⟨blk_far HZ.out (p := ⟨g3, 5, none⟩) (by have := HG2.out; show w.heap.size + 1 ≠ g3; omega) _⟩, ⟨box5 HO.out _⟩, ⟨by simpa using HBASE.out⟩⟩
          case measure => simp [intOf]; omega
      · obtain rfl : i = c.f5.length := by omega
        rw [List.take_length] at HXS
        obtain ⟨hn0, hn1, hn2, hn3, hn4, hn5, hn6, hn7, hn8, hn9, hn10, hn11, hn12, hn13⟩ := cz7_ HO.out
        obtain ⟨hy0, hy1, hy2, hy3, hy4, hy5, hy6, hy7, hy8, hy9, hy10, hy11, hy12, hy13⟩ := cz7_ HZ.out
        go_wp2
        refine bodyPost_ret (results_ct rfl _ _ (w.heap.size + 1) 25 #[.int .u64 c.f0, .int .u64 (IntKind.u64.wrap (c.f1 - n)), .int .u64 c.f2, .int .u64 c.f3, .int .u64 c.f4, .slice Ao xs.length co, .bool c.f6] (0, 0) _ rfl (put7_self (w := wr) (c := (⟨c.f0, IntKind.u64.wrap (c.f1 - n), c.f2, c.f3, c.f4, [], c.f6⟩ : S25)) (v := (.slice Ao xs.length co)) HZ.out) Try.underlying25 rfl (by kernel_rfl)) rfl ?_
        exact ⟨_, rfl, Kd.R_lower (Kd.R_mono (put7_R (xs := (c.f5.filter (damsonref09_Hold.P id) ++ (⟨id, n⟩ : S44) :: c.f5.filter (damsonref09_Hold.Q id))) (w := wr) (g := w.heap.size + 1) (c := (⟨c.f0, IntKind.u64.wrap (c.f1 - n), c.f2, c.f3, c.f4, [], c.f6⟩ : S25)) (v := (.slice Ao xs.length co)) (Eq.subst (motive := fun l => Kd.R k44 44 wr base (fun k_ => base ≤ k_) (.slice Ao xs.length co) l) (HXS.out.trans (by simp)) HR.out) (fun k_ hk => by have := HG2.out; have := HB2.out; omega)) (fun _ _ => trivial)) (by have := HG2.out; have := HB2.out; omega), put7_below (c := (⟨c.f0, IntKind.u64.wrap (c.f1 - n), c.f2, c.f3, c.f4, [], c.f6⟩ : S25)) (v := (.slice Ao xs.length co)) HB.out (Nat.le_succ _)⟩
theorem damsonref09_Hold.calls (k : Nat) (a0_0 : Int) (a0_1 : Int) (a0_2 : Int) (a0_3 : Int) (a0_4 : Int) (A0_5 : Option Addr) (c0_5 : Nat) (l0_5 : List (S44)) (a0_6 : Bool) (a1 : Int) (a2 : Int) (r1 : Int) (r2 : Int) (r3 : Int) (r4 : Int) (r5 : Int) (r6 : List (S44)) (r7 : Bool) (r8 : Int) (w : World) (hr0_5 : Kd.C k44 w A0_5 l0_5.length l0_5) (hc0_5 : l0_5.length ≤ c0_5) (h : damsonref09_Hold.f k a0_0 a0_1 a0_2 a0_3 a0_4 l0_5 a0_6 a1 a2 = some (r1, r2, r3, r4, r5, r6, r7, r8)) :
    Calls Try.prog 39 #[.agg #[.int .u64 a0_0, .int .u64 a0_1, .int .u64 a0_2, .int .u64 a0_3, .int .u64 a0_4, .slice A0_5 l0_5.length c0_5, .bool a0_6], .int .u64 a1, .int .u64 a2] w fun e w' => ∃ v5_ : Value, e = .returned (.tuple #[.agg #[.int .u64 r1, .int .u64 r2, .int .u64 r3, .int .u64 r4, .int .u64 r5, v5_, .bool r7], .int .i64 r8]) ∧ Kd.R k44 44 w' w.heap.size (fun _ => True) v5_ r6 ∧ Below w.heap.size w w' := by
  unfold damsonref09_Hold.f at h
  obtain ⟨⟨d, er⟩, h1, h2⟩ := oB_ h
  injection h2 with h2
  simp only [Prod.mk.injEq] at h2
  obtain ⟨rfl, rfl, rfl, rfl, rfl, rfl, rfl, rfl⟩ := h2
  exact damsonref09_Hold.callsS k ⟨a0_0, a0_1, a0_2, a0_3, a0_4, l0_5, a0_6⟩ A0_5 c0_5 a1 a2 d er w hr0_5 hc0_5 h1

/-! ### damsonref10_Hold: function 65 (by hand) -/
def damsonref10_Hold.g (k : Nat) (l : List S25) (id : Int) (hold : Int) (n : Int) : Option (List S25 × Int) := (damsonref10_Get.f k l id).bind fun t => if t.2.2.2.2.2.2.2 = 0 then (damsonref10_where.f k l hold).bind fun i => if 0 ≤ i then some ([], 6) else (damsonref09_Hold.f k t.1 t.2.1 t.2.2.1 t.2.2.2.1 t.2.2.2.2.1 t.2.2.2.2.2.1 t.2.2.2.2.2.2.1 hold n).bind fun d => if d.2.2.2.2.2.2.2 = 0 then (damsonref10_with.g k l ⟨d.1, d.2.1, d.2.2.1, d.2.2.2.1, d.2.2.2.2.1, d.2.2.2.2.2.1, d.2.2.2.2.2.2.1⟩).bind fun x => some (x, 0) else some ([], d.2.2.2.2.2.2.2) else some ([], t.2.2.2.2.2.2.2)
theorem damsonref10_Hold.mono_g (l : List S25) (id : Int) (hold : Int) (n : Int) (k : Nat) : LeO (damsonref10_Hold.g k l id hold n) (damsonref10_Hold.g (k + 1) l id hold n) := by
  unfold damsonref10_Hold.g
  repeat' first
    | (with_reducible exact LeO.refl _)
    | apply damsonref10_Get.mono
    | apply damsonref09_Hold.mono
    | apply damsonref10_with.mono_g
    | apply damsonref10_where.mono
    | (with_reducible refine LeO.ite ?_ ?_)
    | (with_reducible refine LeO.bind ?_ (fun _ => ?_))
set_option maxHeartbeats 16000000 in
set_option maxRecDepth 100000 in
theorem damsonref10_Hold.callsS (k : Nat) (A0 : Option Addr) (c0 : Nat) (l : List S25) (id : Int) (hold : Int) (n : Int) (r : List S25) (er : Int) (w : World) (hr0 : Kd.C k25 w A0 l.length l) (hc0 : l.length ≤ c0) (h : damsonref10_Hold.g k l id hold n = some (r, er)) :
    Calls Try.prog 65 #[.slice A0 l.length c0, .int .u64 id, .int .u64 hold, .int .u64 n] w fun e w' => ∃ A c, e = .returned (.tuple #[.slice A r.length c, .int .i64 er]) ∧ r.length ≤ c ∧ Kd.C k25 w' A r.length r ∧ Below w.heap.size w w' := by
  have HR0 := aM_ hr0
  have HC0 := aM_ hc0
  have HB := aM_ (Below.refl w.heap.size w)
  clear hr0 hc0
  unfold damsonref10_Hold.g at h
  obtain ⟨⟨t0, t1, t2, t3, t4, t5, t6, te⟩, h1, h_⟩ := oB_ h
  replace h := h_
  clear h_
  have HF1 := aM_ h1
  clear h1
  try dsimp only at h
  by_cases hc : te = 0
  case neg =>
    rw [if_neg hc] at h
    have he1 : (te != 0) = true := bne_iff_ne.mpr hc
    clear hc
    injection h with h
    injection h with h1 h2
    subst h1 h2
    go_enter Try.func65, Try.ntmps65
    go_wp2_with (((go_at_call 49; refine (damsonref10_Get.calls k A0 c0 l id t0 t1 t2 t3 t4 t5 t6 te _ (Kd.C_below HR0.out HB.out) HC0.out HF1.out).mono ?_; rintro e w1 ⟨v, rfl, ho, hb⟩; clear HF1; replace HB := aM_ (below_then HB.out HB.out.size hb); obtain ⟨At, ct, hv⟩ := Kd.R_slice ho; subst hv; have HCt := aM_ (Kd.R_reads' ho).2.1; have HRt := aM_ (Kd.R_reads' ho).2.2; clear hb ho)))
    go_ret2
    exact ⟨none, 0, rfl, Nat.zero_le _, ag_nil25 _, HB.out.alloc HB.out.size _⟩
  rw [if_pos hc] at h
  subst hc
  obtain ⟨i, h1, h_⟩ := oB_ h
  replace h := h_
  clear h_
  have HF2 := aM_ h1
  clear h1
  by_cases hc : 0 ≤ i
  case pos =>
    rw [if_pos hc] at h
    have hi1 : decide (0 ≤ i) = true := decide_eq_true hc
    clear hc
    injection h with h
    injection h with h1 h2
    subst h1 h2
    go_enter Try.func65, Try.ntmps65
    go_wp2_with (first | (go_at_call 49; refine (damsonref10_Get.calls k A0 c0 l id t0 t1 t2 t3 t4 t5 t6 0 _ (Kd.C_below HR0.out HB.out) HC0.out HF1.out).mono ?_; rintro e w1 ⟨v, rfl, ho, hb⟩; clear HF1; replace HB := aM_ (below_then HB.out HB.out.size hb); obtain ⟨At, ct, hv⟩ := Kd.R_slice ho; subst hv; have HCt := aM_ (Kd.R_reads' ho).2.1; have HRt := aM_ (Kd.R_reads' ho).2.2; clear hb ho) | (go_at_call 108; have hal := (Below.refl w1.heap.size w1).alloc (Nat.le_refl _) (.cells #[.int .u64 t0, .int .u64 t1, .int .u64 t2, .int .u64 t3, .int .u64 t4, .slice At t5.length ct, .bool t6] 25); replace HB := aM_ (below_then HB.out HB.out.size hal); replace HRt := aM_ (Kd.C_below HRt.out hal); have KBt := aM_ (blk_new w1 (.cells #[.int .u64 t0, .int .u64 t1, .int .u64 t2, .int .u64 t3, .int .u64 t4, .slice At t5.length ct, .bool t6] 25)); clear hal; refine (damsonref10_where.calls k A0 c0 l hold i _ (Kd.C_below HR0.out HB.out) HC0.out HF2.out).mono ?_; rintro e w2 ⟨rfl, hb⟩; clear HF2; replace HB := aM_ (below_then HB.out HB.out.size hb); replace HRt := aM_ (Kd.C_below HRt.out hb); replace KBt := aM_ (blk_below KBt.out hb); obtain ⟨hy0, hy1, hy2, hy3, hy4, hy5, hy6, hy7, hy8, hy9, hy10, hy11, hy12, hy13⟩ := cz7_ KBt.out; clear hb))
    go_ret2
    exact ⟨none, 0, rfl, Nat.zero_le _, ag_nil25 _, HB.out⟩
  rw [if_neg hc] at h
  have hi1 : decide (0 ≤ i) = false := decide_eq_false hc
  clear hc
  obtain ⟨⟨d0, d1, d2, d3, d4, d5, d6, de⟩, h1, h_⟩ := oB_ h
  replace h := h_
  clear h_
  have HF3 := aM_ h1
  clear h1
  try dsimp only at h
  by_cases hc : de = 0
  case neg =>
    rw [if_neg hc] at h
    have he2 : (de != 0) = true := bne_iff_ne.mpr hc
    clear hc
    injection h with h
    injection h with h1 h2
    subst h1 h2
    go_enter Try.func65, Try.ntmps65
    go_wp2_with (first | (go_at_call 49; refine (damsonref10_Get.calls k A0 c0 l id t0 t1 t2 t3 t4 t5 t6 0 _ (Kd.C_below HR0.out HB.out) HC0.out HF1.out).mono ?_; rintro e w1 ⟨v, rfl, ho, hb⟩; clear HF1; replace HB := aM_ (below_then HB.out HB.out.size hb); obtain ⟨At, ct, hv⟩ := Kd.R_slice ho; subst hv; have HCt := aM_ (Kd.R_reads' ho).2.1; have HRt := aM_ (Kd.R_reads' ho).2.2; clear hb ho) | (go_at_call 108; have hal := (Below.refl w1.heap.size w1).alloc (Nat.le_refl _) (.cells #[.int .u64 t0, .int .u64 t1, .int .u64 t2, .int .u64 t3, .int .u64 t4, .slice At t5.length ct, .bool t6] 25); replace HB := aM_ (below_then HB.out HB.out.size hal); replace HRt := aM_ (Kd.C_below HRt.out hal); have KBt := aM_ (blk_new w1 (.cells #[.int .u64 t0, .int .u64 t1, .int .u64 t2, .int .u64 t3, .int .u64 t4, .slice At t5.length ct, .bool t6] 25)); clear hal; refine (damsonref10_where.calls k A0 c0 l hold i _ (Kd.C_below HR0.out HB.out) HC0.out HF2.out).mono ?_; rintro e w2 ⟨rfl, hb⟩; clear HF2; replace HB := aM_ (below_then HB.out HB.out.size hb); replace HRt := aM_ (Kd.C_below HRt.out hb); replace KBt := aM_ (blk_below KBt.out hb); obtain ⟨hy0, hy1, hy2, hy3, hy4, hy5, hy6, hy7, hy8, hy9, hy10, hy11, hy12, hy13⟩ := cz7_ KBt.out; clear hb) | (go_at_call 39; clear hy0 hy1 hy2 hy3 hy4 hy5 hy6 hy7 hy8 hy9 hy10 hy11 hy12 hy13; refine (damsonref09_Hold.calls k t0 t1 t2 t3 t4 At ct t5 t6 hold n d0 d1 d2 d3 d4 d5 d6 de _ HRt.out HCt.out HF3.out).mono ?_; rintro e w3 ⟨v, rfl, ho, hb⟩; clear HF3; replace HB := aM_ (below_then HB.out HB.out.size hb); replace HRt := aM_ (Kd.C_below HRt.out hb); replace KBt := aM_ (blk_below KBt.out hb); obtain ⟨Ad, cd, hv⟩ := Kd.R_slice ho; subst hv; have HCd := aM_ (Kd.R_reads' ho).2.1; have HRd := aM_ (Kd.R_reads' ho).2.2; clear hb ho))
    go_ret2
    exact ⟨none, 0, rfl, Nat.zero_le _, ag_nil25 _, HB.out.alloc HB.out.size _⟩
  rw [if_pos hc] at h
  subst hc
  obtain ⟨x, h1, h_⟩ := oB_ h
  replace h := h_
  clear h_
  have HF4 := aM_ h1
  clear h1
  injection h with h
  injection h with h1 h2
  subst h1 h2
  go_enter Try.func65, Try.ntmps65
  go_wp2_with (first | (go_at_call 49; refine (damsonref10_Get.calls k A0 c0 l id t0 t1 t2 t3 t4 t5 t6 0 _ (Kd.C_below HR0.out HB.out) HC0.out HF1.out).mono ?_; rintro e w1 ⟨v, rfl, ho, hb⟩; clear HF1; replace HB := aM_ (below_then HB.out HB.out.size hb); obtain ⟨At, ct, hv⟩ := Kd.R_slice ho; subst hv; have HCt := aM_ (Kd.R_reads' ho).2.1; have HRt := aM_ (Kd.R_reads' ho).2.2; clear hb ho) | (go_at_call 108; have hal := (Below.refl w1.heap.size w1).alloc (Nat.le_refl _) (.cells #[.int .u64 t0, .int .u64 t1, .int .u64 t2, .int .u64 t3, .int .u64 t4, .slice At t5.length ct, .bool t6] 25); replace HB := aM_ (below_then HB.out HB.out.size hal); replace HRt := aM_ (Kd.C_below HRt.out hal); have KBt := aM_ (blk_new w1 (.cells #[.int .u64 t0, .int .u64 t1, .int .u64 t2, .int .u64 t3, .int .u64 t4, .slice At t5.length ct, .bool t6] 25)); clear hal; refine (damsonref10_where.calls k A0 c0 l hold i _ (Kd.C_below HR0.out HB.out) HC0.out HF2.out).mono ?_; rintro e w2 ⟨rfl, hb⟩; clear HF2; replace HB := aM_ (below_then HB.out HB.out.size hb); replace HRt := aM_ (Kd.C_below HRt.out hb); replace KBt := aM_ (blk_below KBt.out hb); obtain ⟨hy0, hy1, hy2, hy3, hy4, hy5, hy6, hy7, hy8, hy9, hy10, hy11, hy12, hy13⟩ := cz7_ KBt.out; clear hb) | (go_at_call 39; clear hy0 hy1 hy2 hy3 hy4 hy5 hy6 hy7 hy8 hy9 hy10 hy11 hy12 hy13; refine (damsonref09_Hold.calls k t0 t1 t2 t3 t4 At ct t5 t6 hold n d0 d1 d2 d3 d4 d5 d6 0 _ HRt.out HCt.out HF3.out).mono ?_; rintro e w3 ⟨v, rfl, ho, hb⟩; clear HF3; replace HB := aM_ (below_then HB.out HB.out.size hb); replace HRt := aM_ (Kd.C_below HRt.out hb); replace KBt := aM_ (blk_below KBt.out hb); obtain ⟨Ad, cd, hv⟩ := Kd.R_slice ho; subst hv; have HCd := aM_ (Kd.R_reads' ho).2.1; have HRd := aM_ (Kd.R_reads' ho).2.2; clear hb ho) | (go_at_call 113; have hal := (Below.refl w3.heap.size w3).alloc (Nat.le_refl _) (.cells #[.int .u64 d0, .int .u64 d1, .int .u64 d2, .int .u64 d3, .int .u64 d4, .slice Ad d5.length cd, .bool d6] 25); replace HB := aM_ (below_then HB.out HB.out.size hal); replace HRt := aM_ (Kd.C_below HRt.out hal); replace KBt := aM_ (blk_below KBt.out hal); replace HRd := aM_ (Kd.C_below HRd.out hal); have KBd := aM_ (blk_new w3 (.cells #[.int .u64 d0, .int .u64 d1, .int .u64 d2, .int .u64 d3, .int .u64 d4, .slice Ad d5.length cd, .bool d6] 25)); clear hal; refine (damsonref10_with.callsS k A0 c0 l ⟨d0, d1, d2, d3, d4, d5, d6⟩ Ad cd x _ (Kd.C_below HR0.out HB.out) HC0.out HRd.out HCd.out HF4.out).mono ?_; rintro e w4 ⟨Ax, cx, rfl, hcx, hx, hb⟩; clear HF4; replace HB := aM_ (below_then HB.out HB.out.size hb); replace HRt := aM_ (Kd.C_below HRt.out hb); replace KBt := aM_ (blk_below KBt.out hb); replace HRd := aM_ (Kd.C_below HRd.out hb); replace KBd := aM_ (blk_below KBd.out hb); have HCx := aM_ hcx; have HRx := aM_ hx; clear hb hcx hx))
  go_ret2
  exact ⟨Ax, cx, rfl, HCx.out, HRx.out, HB.out⟩

/-! ### damsonref09_without: function 98 (by hand) -/
def damsonref09_without.P (id : Int) (x : S44) : Bool := decide (x.f0 ≠ id)
def damsonref09_without.g (k : Nat) (c : S25) (id : Int) : Option (S25 × Int × Int) := (damsonref09_Check.f k c.f0 c.f1 c.f2 c.f3 c.f4 c.f5 c.f6).bind fun e => if e = 0 then
  ((damsonref09_find.f k c.f5 id).bind fun p => if p.2.2 = true then (if c.f5.length ≤ 100000 then some (⟨c.f0, c.f1, c.f2, c.f3, c.f4, c.f5.filter (damsonref09_without.P id), c.f6⟩, p.2.1, 0) else none) else some (z25, 0, 5)) else some (z25, 0, 1)
def damsonref09_without.f (k : Nat) (a0_0 : Int) (a0_1 : Int) (a0_2 : Int) (a0_3 : Int) (a0_4 : Int) (l0_5 : List (S44)) (a0_6 : Bool) (a1 : Int) : Option (Int × Int × Int × Int × Int × List S44 × Bool × Int × Int) := (damsonref09_without.g k ⟨a0_0, a0_1, a0_2, a0_3, a0_4, l0_5, a0_6⟩ a1).bind fun r => some (r.1.f0, r.1.f1, r.1.f2, r.1.f3, r.1.f4, r.1.f5, r.1.f6, r.2.1, r.2.2)
theorem damsonref09_without.mono : ∀ a0 a1 a2 a3 a4 a5 a6 a7 k, LeO (damsonref09_without.f k a0 a1 a2 a3 a4 a5 a6 a7) (damsonref09_without.f (k + 1) a0 a1 a2 a3 a4 a5 a6 a7) := by
  intro a0 a1 a2 a3 a4 a5 a6 a7 k
  unfold damsonref09_without.f damsonref09_without.g
  repeat' first
    | (with_reducible exact LeO.refl _)
    | apply damsonref09_Check.mono
    | apply damsonref09_find.mono
    | (with_reducible refine LeO.ite ?_ ?_)
    | (with_reducible refine LeO.bind ?_ (fun _ => ?_))
set_option maxHeartbeats 16000000 in
set_option maxRecDepth 100000 in
theorem damsonref09_without.callsS (k : Nat) (c : S25) (A0 : Option Addr) (c0 : Nat) (id : Int) (d : S25) (q er : Int) (w : World) (hr0 : Kd.C k44 w A0 c.f5.length c.f5) (hc0 : c.f5.length ≤ c0) (h : damsonref09_without.g k c id = some (d, q, er)) :
    Calls Try.prog 98 #[.agg #[.int .u64 c.f0, .int .u64 c.f1, .int .u64 c.f2, .int .u64 c.f3, .int .u64 c.f4, .slice A0 c.f5.length c0, .bool c.f6], .int .u64 id] w fun e w' => ∃ v5_ : Value, e = .returned (.tuple #[.agg #[.int .u64 d.f0, .int .u64 d.f1, .int .u64 d.f2, .int .u64 d.f3, .int .u64 d.f4, v5_, .bool d.f6], .int .u64 q, .int .i64 er]) ∧ Kd.R k44 44 w' w.heap.size (fun _ => True) v5_ d.f5 ∧ Below w.heap.size w w' := by
  have HR0 := aM_ hr0
  have HC0 := aM_ hc0
  clear hr0 hc0
  have HB := aM_ (((Below.refl w.heap.size w).alloc (Nat.le_refl _) (.cells #[.int .u64 c.f0, .int .u64 c.f1, .int .u64 c.f2, .int .u64 c.f3, .int .u64 c.f4, .slice A0 c.f5.length c0, .bool c.f6] 25)).alloc (by simp) (.cells #[.int .u64 0, .int .u64 0, .int .u64 0, .int .u64 0, .int .u64 0, .slice none 0 0, .bool false] 25))
  have HK := aM_ (blk_alloc (blk_new w (.cells #[.int .u64 c.f0, .int .u64 c.f1, .int .u64 c.f2, .int .u64 c.f3, .int .u64 c.f4, .slice A0 c.f5.length c0, .bool c.f6] 25)) (.cells #[.int .u64 0, .int .u64 0, .int .u64 0, .int .u64 0, .int .u64 0, .slice none 0 0, .bool false] 25))
  have HZ := aM_ (blk_new2 w (.cells #[.int .u64 c.f0, .int .u64 c.f1, .int .u64 c.f2, .int .u64 c.f3, .int .u64 c.f4, .slice A0 c.f5.length c0, .bool c.f6] 25) (.cells #[.int .u64 0, .int .u64 0, .int .u64 0, .int .u64 0, .int .u64 0, .slice none 0 0, .bool false] 25))
  unfold damsonref09_without.g at h
  obtain ⟨e1, h1, h_⟩ := oB_ h
  replace h := h_
  clear h_
  have HF1 := aM_ h1
  clear h1
  by_cases he : e1 = 0
  case neg =>
    rw [if_neg he] at h
    have heb : (e1 != 0) = true := bne_iff_ne.mpr he
    clear he
    injection h with h
    simp only [Prod.mk.injEq] at h
    obtain ⟨rfl, rfl, rfl⟩ := h
    go_enter Try.func98, Try.ntmps98
    go_wp2_with (((go_at_call 34; refine (damsonref09_Check.calls k c.f0 c.f1 c.f2 c.f3 c.f4 A0 c0 c.f5 c.f6 e1 _ (Kd.C_below HR0.out HB.out) HC0.out HF1.out).mono ?_; rintro e w1 ⟨rfl, hb⟩; clear HF1; replace HB := aM_ (below_then HB.out HB.out.size hb); replace HK := aM_ (blk_below HK.out hb); replace HZ := aM_ (blk_below HZ.out hb); have HZF := HZ; have HBF := HB; obtain ⟨hy0, hy1, hy2, hy3, hy4, hy5, hy6, hy7, hy8, hy9, hy10, hy11, hy12, hy13⟩ := cz7_ HZ.out; clear hb)))
    refine bodyPost_ret (results_ctt rfl _ _ (w.heap.size + 1) 25 #[.int .u64 0, .int .u64 0, .int .u64 0, .int .u64 0, .int .u64 0, .slice none 0 0, .bool false] (0, 0) _ rfl (zero7_self HZF.out) Try.underlying25 rfl (by kernel_rfl)) rfl ?_
    exact ⟨_, rfl, Kd.R_nil _ _ _ _ _, zero7_below HBF.out (Nat.le_succ _)⟩
  subst he
  rw [if_pos rfl] at h
  obtain ⟨⟨p1, p2, p3⟩, h1, h_⟩ := oB_ h
  replace h := h_
  clear h_
  have HF2 := aM_ h1
  clear h1
  dsimp only at h
  go_enter Try.func98, Try.ntmps98
  go_upto_region 4 with (first | (go_at_call 34; refine (damsonref09_Check.calls k c.f0 c.f1 c.f2 c.f3 c.f4 A0 c0 c.f5 c.f6 0 _ (Kd.C_below HR0.out HB.out) HC0.out HF1.out).mono ?_; rintro e w1 ⟨rfl, hb⟩; clear HF1; replace HB := aM_ (below_then HB.out HB.out.size hb); replace HK := aM_ (blk_below HK.out hb); replace HZ := aM_ (blk_below HZ.out hb); obtain ⟨hz0, hz1, hz2, hz3, hz4, hz5, hz6, hz7, hz8, hz9, hz10, hz11, hz12, hz13⟩ := cz7_ HK.out; clear hb) | (go_at_call 97; refine (damsonref09_find.calls k A0 c0 c.f5 id p1 p2 p3 _ (Kd.C_below HR0.out HB.out) HC0.out HF2.out).mono ?_; rintro e w2 ⟨rfl, hb⟩; clear HF2; clear hz0 hz1 hz2 hz3 hz4 hz5 hz6 hz7 hz8 hz9 hz10 hz11 hz12 hz13; replace HB := aM_ (below_then HB.out HB.out.size hb); replace HK := aM_ (blk_below HK.out hb); replace HZ := aM_ (blk_below HZ.out hb); obtain ⟨hz0, hz1, hz2, hz3, hz4, hz5, hz6, hz7, hz8, hz9, hz10, hz11, hz12, hz13⟩ := cz7_ HK.out; have hlt := blk_lt HZ.out; clear hb))
  have hal := (Below.refl w2.heap.size w2).alloc (Nat.le_refl _) (.cells #[.int .u64 p1, .int .u64 p2] 44)
  have HF := aM_ (blk_new w2 (.cells #[.int .u64 p1, .int .u64 p2] 44))
  have HG : Aside0 (w.heap.size + 1 < w2.heap.size) := ⟨blk_lt HZ.out⟩
  replace HB := aM_ (below_then HB.out HB.out.size hal)
  replace HK := aM_ (blk_below HK.out hal)
  replace HZ := aM_ (blk_below HZ.out hal)
  clear hal hlt hz0 hz1 hz2 hz3 hz4 hz5 hz6 hz7 hz8 hz9 hz10 hz11 hz12 hz13
  generalize w2.alloc (.cells #[.int .u64 p1, .int .u64 p2] 44) = w3 at HB HK HZ HF ⊢
  generalize hg : w2.heap.size = g at HF HG ⊢
  clear hg
  cases p3 with
  | false =>
    rw [if_neg (by decide)] at h
    injection h with h
    simp only [Prod.mk.injEq] at h
    obtain ⟨rfl, rfl, rfl⟩ := h
    obtain ⟨hy0, hy1, hy2, hy3, hy4, hy5, hy6, hy7, hy8, hy9, hy10, hy11, hy12, hy13⟩ := cz7_ HZ.out
    go_wp2
    refine bodyPost_ret (results_ctt rfl _ _ (w.heap.size + 1) 25 #[.int .u64 0, .int .u64 0, .int .u64 0, .int .u64 0, .int .u64 0, .slice none 0 0, .bool false] (0, 0) _ rfl (zero7_self HZ.out) Try.underlying25 rfl (by kernel_rfl)) rfl ?_
    exact ⟨_, rfl, Kd.R_nil _ _ _ _ _, zero7_below HB.out (Nat.le_succ _)⟩
  | true =>
  rw [if_pos rfl] at h
  by_cases hlen : c.f5.length ≤ 100000
  case neg => rw [if_neg hlen] at h; cases h
  rw [if_pos hlen] at h
  injection h with h
  simp only [Prod.mk.injEq] at h
  obtain ⟨rfl, rfl, rfl⟩ := h
  obtain ⟨hz0, hz1, hz2, hz3, hz4, hz5, hz6, hz7, hz8, hz9, hz10, hz11, hz12, hz13⟩ := cz7_ HK.out
  have hlt := blk_lt HK.out
  go_wp2
  have hal := (Below.refl w3.heap.size w3).alloc (Nat.le_refl _) (.cells #[.int .u64 c.f0, .int .u64 c.f1, .int .u64 c.f2, .int .u64 c.f3, .int .u64 c.f4, .slice none 0 0, .bool c.f6] 25)
  have HO := aM_ (blk_new w3 (.cells #[.int .u64 c.f0, .int .u64 c.f1, .int .u64 c.f2, .int .u64 c.f3, .int .u64 c.f4, .slice none 0 0, .bool c.f6] 25))
  have HG2 : Aside0 (g < w3.heap.size) := ⟨blk_lt HF.out⟩
  have HBASE : Aside0 (w3.heap.size + 1 ≤ (w3.alloc (.cells #[.int .u64 c.f0, .int .u64 c.f1, .int .u64 c.f2, .int .u64 c.f3, .int .u64 c.f4, .slice none 0 0, .bool c.f6] 25)).heap.size) := ⟨by simp⟩
  replace HB := aM_ (below_then HB.out HB.out.size hal)
  replace HK := aM_ (blk_below HK.out hal)
  replace HZ := aM_ (blk_below HZ.out hal)
  replace HF := aM_ (blk_below HF.out hal)
  clear hal hlt hz0 hz1 hz2 hz3 hz4 hz5 hz6 hz7 hz8 hz9 hz10 hz11 hz12 hz13
  generalize w3.alloc (.cells #[.int .u64 c.f0, .int .u64 c.f1, .int .u64 c.f2, .int .u64 c.f3, .int .u64 c.f4, .slice none 0 0, .bool c.f6] 25) = w4 at HB HK HZ HO HF HBASE ⊢
  generalize hg : w3.heap.size = g3 at HO HG2 HBASE ⊢
  clear hg
  obtain ⟨base, hbase⟩ : ∃ base, base = g3 + 1 := ⟨_, rfl⟩
  have HB2 := aM_ hbase
  rw [← hbase] at HBASE
  clear hbase
  go_loopw [31] (fun vi wr => ∃ (i : Nat) (vo : Value), i ≤ c.f5.length ∧ vi = .int .i64 i ∧ Aside0 (Kd.R k44 44 wr base (fun k_ => base ≤ k_) vo ((c.f5.take i).filter (damsonref09_without.P id))) ∧ Aside0 (Below w.heap.size w wr) ∧ Aside0 (wr.heap[w.heap.size]? = some (.cells #[.int .u64 c.f0, .int .u64 c.f1, .int .u64 c.f2, .int .u64 c.f3, .int .u64 c.f4, .slice A0 c.f5.length c0, .bool c.f6] 25 (0, 0))) ∧ Aside0 (wr.heap[w.heap.size + 1]? = some (.cells #[.int .u64 0, .int .u64 0, .int .u64 0, .int .u64 0, .int .u64 0, .slice none 0 0, .bool false] 25 (0, 0))) ∧ Aside0 (wr.heap[g3]? = some (.cells #[.int .u64 c.f0, .int .u64 c.f1, .int .u64 c.f2, .int .u64 c.f3, .int .u64 c.f4, vo, .bool c.f6] 25 (0, 0))) ∧ Aside0 (wr.heap[g]? = some (.cells #[.int .u64 p1, .int .u64 p2] 44 (0, 0))) ∧ Aside0 (base ≤ wr.heap.size)) (fun vi _ => c.f5.length - (intOf vi).toNat)
  case atStart => exact ⟨0, _, Nat.zero_le _, rfl, ⟨Kd.R_nil _ _ _ _ _⟩, HB, HK, HZ, HO, HF, HBASE⟩
  case round =>
   clear HB HK HZ HO HF HBASE
   obtain ⟨i, vo, hi, rfl, HR, HB, HK, HZ, HO, HF, HBASE⟩ := hrel
   obtain ⟨Ao, co, hvo⟩ := Kd.R_slice HR.out
   subst hvo
   by_cases hil : i < c.f5.length
   · obtain ⟨ad, ea, hx0, hx1⟩ := at_T44 HR0.out (i : Int) (by omega) (by omega)
     subst ea
     have hft := filter_take44 (damsonref09_without.P id) hil
     obtain ⟨x, hx⟩ : ∃ x, x = rd_T44 c.f5 (i : Int) := ⟨_, rfl⟩
     simp only [← hx, Int.toNat_natCast] at hx0 hx1 hft
     clear hx
     replace hx0 := cN_ HB hx0
     replace hx1 := cN_ HB hx1
     have hal := (Below.refl wr.heap.size wr).alloc (Nat.le_refl _) (.cells #[.int .u64 x.f0, .int .u64 x.f1] 44)
     have hlen2 : ((c.f5.take i).filter (damsonref09_without.P id)).length ≤ 100000 := Nat.le_trans (List.length_filter_le _ _) (by rw [List.length_take]; omega)
     have HLEN := aM_ hlen2
     clear hlen2
     by_cases hq : x.f0 = id
     · have hqb : (x.f0 != id) = false := bne_eq_false_iff_eq.mpr hq
       have hpx : damsonref09_without.P id x = false := decide_eq_false (by omega)
       rw [if_neg (by rw [hpx]; decide), List.append_nil] at hft
       have HFT := aM_ hft
       have HAL := aM_ hal
       clear hq hpx hft hal
       go_wp2
       go_roundw
       case rel => exact ⟨i + 1, _, by omega, by go_num, ⟨by rw [HFT.out]; exact Kd.R_below HR.out HAL.out⟩, ⟨below_then HB.out HB.out.size HAL.out⟩, ⟨blk_below HK.out HAL.out⟩, ⟨blk_below HZ.out HAL.out⟩, ⟨blk_below HO.out HAL.out⟩, ⟨blk_below HF.out HAL.out⟩, ⟨Nat.le_trans HBASE.out HAL.out.size⟩⟩
       case measure => simp [intOf]; omega
     · have hqb : (x.f0 != id) = true := bne_iff_ne.mpr hq
       have hpx : damsonref09_without.P id x = true := decide_eq_true hq
       rw [if_pos hpx] at hft
       have HFT := aM_ hft
       have hlo : g3 < wr.heap.size := blk_lt HO.out
       obtain ⟨ho0, ho1, ho2, ho3, ho4, ho5, ho6, ho7, ho8, ho9, ho10, ho11, ho12, ho13⟩ := cz7_ HO.out
       have HRW := aM_ (Kd.R_below HR.out hal)
       replace HB := aM_ (below_then HB.out HB.out.size hal)
       replace HK := aM_ (blk_below HK.out hal)
       replace HZ := aM_ (blk_below HZ.out hal)
       replace HO := aM_ (blk_below HO.out hal)
       replace HF := aM_ (blk_below HF.out hal)
       replace HBASE := aM_ (Nat.le_trans HBASE.out hal.size)
       clear hq hpx hft hal
       go_wp2_with ((((with_reducible refine gate_builtin (b := .append) (xs := #[.tmp 40, .tmp 42]) rfl ?_); at_builtin; refine Kd.R_append k44 (w0 := _) base rfl (.tmp 40) (.tmp 42) 23 44 (.agg #[(.int .u64 0), (.int .u64 0)]) 16 rfl Try.underlying23 info44 rfl (by decide) (by omega) (.slice Ao ((c.f5.take i).filter (damsonref09_without.P id)).length co) ((c.f5.take i).filter (damsonref09_without.P id)) x [.int .u64 x.f0, .int .u64 x.f1] (fun k_ => base ≤ k_) (fun _ => False) rfl (by ((go_simp; done))) (k44_mkM _ _ _ x) (fun _ hk => hk.elim) (fun k_ hk => Nat.le_trans HBASE.out hk) HRW.out (Below.refl _ _) HBASE.out (by have := HLEN.out; omega) ?_; intro v1 w1 ho hb hg hat; obtain ⟨Av, cv, hv1⟩ := Kd.R_slice ho; subst hv1; have hlo1 := HG.out; have hlo2 := HB2.out; have hlo3 := HG2.out; replace HB := aM_ (HB.out.trans (hb.mono (by omega))); replace HK := aM_ (blk_low HK.out hb (by omega)); replace HZ := aM_ (blk_low HZ.out hb (by omega)); replace HO := aM_ (blk_low HO.out hb (by omega)); replace HF := aM_ (blk_low HF.out hb (by omega)); replace HBASE := aM_ (Nat.le_trans HBASE.out hb.size); rw [show ((c.f5.take i).filter (damsonref09_without.P id) ++ [x]).length = ((c.f5.take i).filter (damsonref09_without.P id)).length + 1 from by simp] at ho; have HRN := aM_ ho; clear hlo1 hlo2 hlo3 hlo HRW HR HLEN ho0 ho1 ho2 ho3 ho4 ho5 ho6 ho7 ho8 ho9 ho10 ho11 ho12 ho13; obtain ⟨hn0, hn1, hn2, hn3, hn4, hn5, hn6, hn7, hn8, hn9, hn10, hn11, hn12, hn13⟩ := cz7_ HO.out; clear ho hb hg hat)))
       go_roundw
       case rel => exact ⟨i + 1, _, by omega, by go_num, ⟨by rw [HFT.out]; exact Kd.R_far (p := ⟨g3, 5, none⟩) HRN.out (fun k_ hk => by have := HB2.out; show k_ ≠ g3; omega) _⟩, ⟨HB.out.setCell (by have := HG.out; have := HG2.out; show w.heap.size ≤ g3; omega) _⟩, ⟨blk_far HK.out (p := ⟨g3, 5, none⟩) (by have := HG.out; have := HG2.out; show w.heap.size ≠ g3; omega) _⟩, ⟨blk_far HZ.out (p := ⟨g3, 5, none⟩) (by have := HG.out; have := HG2.out; show w.heap.size + 1 ≠ g3; omega) _⟩, ⟨box5 HO.out _⟩, ⟨blk_far HF.out (p := ⟨g3, 5, none⟩) (by have := HG2.out; show g ≠ g3; omega) _⟩, ⟨by simpa using HBASE.out⟩⟩
       case measure => simp [intOf]; omega
   · obtain rfl : i = c.f5.length := by omega
     rw [List.take_length] at HR HO
     go_wp2
     replace HB := aM_ (below_drew1 HB.out)
     replace HK := aM_ (blk_drew HK.out)
     replace HZ := aM_ (blk_drew HZ.out)
     replace HO := aM_ (blk_drew HO.out)
     replace HF := aM_ (blk_drew HF.out)
     replace HR := aM_ (Kd.R_drew HR.out)
     refine start_ (n := 6) (S := fun w' => w'.cell? ⟨g3, 0, none⟩ = some (.int .u64 c.f0) ∧ w'.cell? ⟨g3, 1, none⟩ = some (.int .u64 c.f1) ∧ w'.cell? ⟨g3, 2, none⟩ = some (.int .u64 c.f2) ∧ w'.cell? ⟨g3, 3, none⟩ = some (.int .u64 c.f3) ∧ w'.cell? ⟨g3, 4, none⟩ = some (.int .u64 c.f4) ∧ w'.cell? ⟨g3, 5, none⟩ = some (.slice Ao (c.f5.filter (damsonref09_without.P id)).length co) ∧ w'.cell? ⟨g3, 6, none⟩ = some (.bool c.f6) ∧ w'.cell? ⟨g, 1, none⟩ = some (.int .u64 p2)) (ds := []) #[false, false, false, false, false, false] (by kernel_rfl) rfl rfl ⟨(blk_cell HO.out 0).trans rfl, (blk_cell HO.out 1).trans rfl, (blk_cell HO.out 2).trans rfl, (blk_cell HO.out 3).trans rfl, (blk_cell HO.out 4).trans rfl, (blk_cell HO.out 5).trans rfl, (blk_cell HO.out 6).trans rfl, (blk_cell HF.out 1).trans rfl⟩ (fun hHeld => ?_)
     generalize wr.drew = wd at HB HK HZ HO HF HR hHeld ⊢
     refine pure_ (i := 1) (N := some 47) (v := ?_) (a' := ?_) #[false, true, false, false, false, false] rfl rfl (by kernel_rfl) (fun _ _ _ h => h) (Or.inl ⟨by rfl, ?_⟩) ?_ ?_
     rotate_left
     · intro w'
       go_simp
       with_reducible rfl
     rotate_left
     · simp only [Act.put, List.setIfInBounds_toArray, List.set_cons_zero, List.set_cons_succ, i64_w, i32_w]
       rfl
     refine take_ (i := 0) (N := some 46) (v := ?_) (a' := ?_) #[true, true, false, false, false, false] rfl rfl (by kernel_rfl) (fun _ _ _ h => h) (Or.inl ⟨by rfl, ?_⟩) hHeld ?_ ?_
     rotate_left
     · rintro w' ⟨s0, s1, s2, s3, s4, s5, s6, s7⟩
       go_simp
       with_reducible rfl
     rotate_left
     · simp only [Act.put, List.setIfInBounds_toArray, List.set_cons_zero, List.set_cons_succ, i64_w, i32_w]
       rfl
     refine take_ (i := 2) (N := some 48) (v := ?_) (a' := ?_) #[true, true, true, false, false, false] rfl rfl (by kernel_rfl) (fun _ _ _ h => h) (Or.inl ⟨by rfl, ?_⟩) hHeld ?_ ?_
     rotate_left
     · rintro w' ⟨s0, s1, s2, s3, s4, s5, s6, s7⟩
       go_simp
       with_reducible rfl
     rotate_left
     · simp only [Act.put, List.setIfInBounds_toArray, List.set_cons_zero, List.set_cons_succ, i64_w, i32_w]
       rfl
     refine one_ (i := 3) (N := none) #[true, true, true, true, false, false] rfl rfl (by kernel_rfl) (by decide) (fun K hK => ?_)
     obtain ⟨hs0, hs1, hs2, hs3, hs4, hs5, hs6, hs7, hs8, hs9, hs10, hs11, hs12, hs13⟩ := cz7_ HZ.out
     refine skip_ (w1 := put7 wd (w.heap.size + 1) c (.slice Ao (c.f5.filter (damsonref09_without.P id)).length co)) (by rfl) rfl ?_ ?_
     · go_simp
       rfl
     clear hs0 hs1 hs2 hs3 hs4 hs5 hs6 hs7 hs8 hs9 hs10 hs11 hs12 hs13
     have hlo1 := HG.out
     have hlo2 := HB2.out
     have hlo3 := HG2.out
     replace HB := aM_ (put7_below (c := c) (v := .slice Ao (c.f5.filter (damsonref09_without.P id)).length co) HB.out (Nat.le_succ _))
     replace HO := aM_ (put7_far (c := c) (v := .slice Ao (c.f5.filter (damsonref09_without.P id)).length co) HO.out (show g3 ≠ w.heap.size + 1 by omega))
     replace HF := aM_ (put7_far (c := c) (v := .slice Ao (c.f5.filter (damsonref09_without.P id)).length co) HF.out (show g ≠ w.heap.size + 1 by omega))
     replace HZ := aM_ (put7_self (c := c) (v := .slice Ao (c.f5.filter (damsonref09_without.P id)).length co) HZ.out)
     replace HR := aM_ (put7_R (c := c) (v := .slice Ao (c.f5.filter (damsonref09_without.P id)).length co) HR.out (fun k_ hk => (show k_ ≠ w.heap.size + 1 by omega)))
     clear hlo1 hlo2 hlo3 HK
     generalize put7 wd (w.heap.size + 1) c (.slice Ao (c.f5.filter (damsonref09_without.P id)).length co) = w7 at HB HO HF HZ HR ⊢
     refine hK.out _ _ ⟨(blk_cell HO.out 0).trans rfl, (blk_cell HO.out 1).trans rfl, (blk_cell HO.out 2).trans rfl, (blk_cell HO.out 3).trans rfl, (blk_cell HO.out 4).trans rfl, (blk_cell HO.out 5).trans rfl, (blk_cell HO.out 6).trans rfl, (blk_cell HF.out 1).trans rfl⟩ (fun hHeld => ?_)
     clear hK K
     refine pure_ (i := 4) (N := some 5) (v := ?_) (a' := ?_) #[true, true, true, true, true, false] rfl rfl (by kernel_rfl) (fun _ _ _ h => h) (Or.inl ⟨by rfl, ?_⟩) ?_ ?_
     rotate_left
     · intro w'
       go_simp
       with_reducible rfl
     rotate_left
     · simp only [Act.put, List.setIfInBounds_toArray, List.set_cons_zero, List.set_cons_succ, i64_w, i32_w]
       rfl
     refine pure_ (i := 5) (N := some 6) (v := ?_) (a' := ?_) #[true, true, true, true, true, true] rfl rfl (by kernel_rfl) (fun _ _ _ h => h) (Or.inl ⟨by rfl, ?_⟩) ?_ ?_
     rotate_left
     · intro w'
       go_simp
       with_reducible rfl
     rotate_left
     · simp only [Act.put, List.setIfInBounds_toArray, List.set_cons_zero, List.set_cons_succ, i64_w, i32_w]
       rfl
     refine done_ (by kernel_rfl) ?_
     go_wp2
     refine bodyPost_ret (results_ctt rfl _ _ (w.heap.size + 1) 25 #[.int .u64 c.f0, .int .u64 c.f1, .int .u64 c.f2, .int .u64 c.f3, .int .u64 c.f4, .slice Ao (c.f5.filter (damsonref09_without.P id)).length co, .bool c.f6] (0, 0) _ rfl HZ.out Try.underlying25 rfl (by kernel_rfl)) rfl ?_
     exact ⟨_, rfl, Kd.R_lower (Kd.R_mono HR.out (fun _ _ => trivial)) (by have := HG.out; have := HG2.out; have := HB2.out; omega), HB.out⟩
theorem damsonref09_without.calls (k : Nat) (a0_0 : Int) (a0_1 : Int) (a0_2 : Int) (a0_3 : Int) (a0_4 : Int) (A0_5 : Option Addr) (c0_5 : Nat) (l0_5 : List (S44)) (a0_6 : Bool) (a1 : Int) (r1 : Int) (r2 : Int) (r3 : Int) (r4 : Int) (r5 : Int) (r6 : List (S44)) (r7 : Bool) (r8 : Int) (r9 : Int) (w : World) (hr0_5 : Kd.C k44 w A0_5 l0_5.length l0_5) (hc0_5 : l0_5.length ≤ c0_5) (h : damsonref09_without.f k a0_0 a0_1 a0_2 a0_3 a0_4 l0_5 a0_6 a1 = some (r1, r2, r3, r4, r5, r6, r7, r8, r9)) :
    Calls Try.prog 98 #[.agg #[.int .u64 a0_0, .int .u64 a0_1, .int .u64 a0_2, .int .u64 a0_3, .int .u64 a0_4, .slice A0_5 l0_5.length c0_5, .bool a0_6], .int .u64 a1] w fun e w' => ∃ v5_ : Value, e = .returned (.tuple #[.agg #[.int .u64 r1, .int .u64 r2, .int .u64 r3, .int .u64 r4, .int .u64 r5, v5_, .bool r7], .int .u64 r8, .int .i64 r9]) ∧ Kd.R k44 44 w' w.heap.size (fun _ => True) v5_ r6 ∧ Below w.heap.size w w' := by
  unfold damsonref09_without.f at h
  obtain ⟨⟨d, q, er⟩, h1, h2⟩ := oB_ h
  injection h2 with h2
  simp only [Prod.mk.injEq] at h2
  obtain ⟨rfl, rfl, rfl, rfl, rfl, rfl, rfl, rfl, rfl⟩ := h2
  exact damsonref09_without.callsS k ⟨a0_0, a0_1, a0_2, a0_3, a0_4, l0_5, a0_6⟩ A0_5 c0_5 a1 d q er w hr0_5 hc0_5 h1

/-! ### damsonref09_Settle: function 40 -/
def damsonref09_Settle.f (k : Nat) (a0_0 : Int) (a0_1 : Int) (a0_2 : Int) (a0_3 : Int) (a0_4 : Int) (l0_5 : List (S44)) (a0_6 : Bool) (a1 : Int) : Option (Int × Int × Int × Int × Int × (List (S44)) × Bool × Int × Int) := (damsonref09_without.f k a0_0 a0_1 a0_2 a0_3 a0_4 l0_5 a0_6 a1).bind fun bt359 => (some (bt359.1, bt359.2.1, IntKind.u64.wrap (bt359.2.2.1 + bt359.2.2.2.2.2.2.2.1), bt359.2.2.2.1, bt359.2.2.2.2.1, bt359.2.2.2.2.2.1, bt359.2.2.2.2.2.2.1, bt359.2.2.2.2.2.2.2.1, bt359.2.2.2.2.2.2.2.2))
theorem damsonref09_Settle.mono : ∀ a0 a1 a2 a3 a4 a5 a6 a7 k, LeO (damsonref09_Settle.f k a0 a1 a2 a3 a4 a5 a6 a7) (damsonref09_Settle.f (k + 1) a0 a1 a2 a3 a4 a5 a6 a7) := by
  intro a0 a1 a2 a3 a4 a5 a6 a7 k
  unfold damsonref09_Settle.f
  repeat' first
      | (with_reducible exact damsonref09_without.mono _ _ _ _ _ _ _ _ _)
      | (with_reducible exact LeO.refl _)
      | (with_reducible refine LeO.bind ?_ (fun _ => ?_))
      | exact damsonref09_without.mono _ _ _ _ _ _ _ _ _
      | exact LeO.none _
      | refine LeO.ite ?_ ?_
      | refine LeO.bind ?_ (fun _ => ?_)
set_option maxHeartbeats 8000000 in
set_option maxRecDepth 100000 in
theorem damsonref09_Settle.calls (k : Nat) (a0_0 : Int) (a0_1 : Int) (a0_2 : Int) (a0_3 : Int) (a0_4 : Int) (A0_5 : Option Addr) (c0_5 : Nat) (l0_5 : List (S44)) (a0_6 : Bool) (a1 : Int) (r1 : Int) (r2 : Int) (r3 : Int) (r4 : Int) (r5 : Int) (r6 : List (S44)) (r7 : Bool) (r8 : Int) (r9 : Int) (w : World) (hr0_5 : Kd.C k44 w A0_5 l0_5.length l0_5) (hc0_5 : l0_5.length ≤ c0_5) (h : damsonref09_Settle.f k a0_0 a0_1 a0_2 a0_3 a0_4 l0_5 a0_6 a1 = some (r1, r2, r3, r4, r5, r6, r7, r8, r9)) :
    Calls Try.prog 40 #[.agg #[.int .u64 a0_0, .int .u64 a0_1, .int .u64 a0_2, .int .u64 a0_3, .int .u64 a0_4, .slice A0_5 l0_5.length c0_5, .bool a0_6], .int .u64 a1] w fun e w' => ∃ v5_ : Value, e = .returned (.tuple #[.agg #[.int .u64 r1, .int .u64 r2, .int .u64 r3, .int .u64 r4, .int .u64 r5, v5_, .bool r7], .int .u64 r8, .int .i64 r9]) ∧ Kd.R k44 44 w' w.heap.size (fun _ => True) v5_ r6 ∧ Below w.heap.size w w' := by
  have hu25 := Try.underlying25
  have HR0_5 := aM_ hr0_5
  have HC0_5 := aM_ hc0_5
  clear hr0_5 hc0_5
  have HB := aM_ (Below.refl w.heap.size w)
  have H : ((damsonref09_without.f k a0_0 a0_1 a0_2 a0_3 a0_4 l0_5 a0_6 a1).bind fun bt359 => (some (bt359.1, bt359.2.1, IntKind.u64.wrap (bt359.2.2.1 + bt359.2.2.2.2.2.2.2.1), bt359.2.2.2.1, bt359.2.2.2.2.1, bt359.2.2.2.2.2.1, bt359.2.2.2.2.2.2.1, bt359.2.2.2.2.2.2.2.1, bt359.2.2.2.2.2.2.2.2))) = some (r1, r2, r3, r4, r5, r6, r7, r8, r9) := h
  clear h
  replace H := oB_ H
  obtain ⟨⟨t359, t360, t361, t362, t363, t364, t367, t368, t369⟩, A30, H⟩ := H
  replace H : (some (t359, t360, IntKind.u64.wrap (t361 + t368), t362, t363, t364, t367, t368, t369)) = some (r1, r2, r3, r4, r5, r6, r7, r8, r9) := H
  have A3 := aM_ A30
  clear A30
  simp only [Option.some.injEq, Prod.mk.injEq] at H
  obtain ⟨rfl, rfl, rfl, rfl, rfl, rfl, rfl, rfl, rfl⟩ := H
  go_enter Try.func40, Try.ntmps40
  go_wp2_with (first | ((with_reducible refine gate_dst (N := 2) rfl ?_); refine box_event ?hg (N := 2) ?hd (cs := #[.int .u64 a0_0, .int .u64 a0_1, .int .u64 a0_2, .int .u64 a0_3, .int .u64 a0_4, .slice A0_5 l0_5.length c0_5, .bool a0_6]) (t := 25) ?hr ?_; (case hd => rfl); (case hg => rfl); (case hr => ((go_simp; done))); intro gb357 hg w4 hbox hb; have BK357 := aM_ (hbox); have GW357 := aM_ (geN HB hg); have GE357 := aM_ (geN HB hg); replace HB := bsA_ HB hb; clear hb hbox hg) | ((with_reducible refine gate_dst (N := 4) rfl ?_); refine box_event ?hg (N := 4) ?hd (cs := #[.int .u64 0, .int .u64 0, .int .u64 0, .int .u64 0, .int .u64 0, .slice none 0 0, .bool false]) (t := 25) ?hr ?_; (case hd => rfl); (case hg => rfl); (case hr => ((go_simp; done))); intro gb358 hg w5 hbox hb; have BK358 := aM_ (hbox); have GW358 := aM_ (geN HB hg); have GE358 := aM_ (geN HB hg); replace HB := bsA_ HB hb; have NB357_358 := aM_ (neN BK357 hg); have NB358_357 := aM_ (neN' BK357 hg); replace BK357 := bbA_ BK357 hb; clear hb hbox hg; have hnb6 := NB357_358.out; have hnc6 := NB358_357.out; obtain ⟨hcz7_0, hcz7_1, hcz7_2, hcz7_3, hcz7_4, hcz7_5, hcz7_6, hfz7_0, hfz7_1, hfz7_2, hfz7_3, hfz7_4, hfz7_5, hfz7_6⟩ := cz7_ (w := w5) BK357.out) | ((with_reducible refine gate_callee (f := 98) rfl ?_); refine gL_ 13 Try.func98 #[.agg #[.int .u64 a0_0, .int .u64 a0_1, .int .u64 a0_2, .int .u64 a0_3, .int .u64 a0_4, .slice A0_5 l0_5.length c0_5, .bool a0_6], .int .u64 a1] ?_; (with_reducible refine (damsonref09_without.calls k a0_0 a0_1 a0_2 a0_3 a0_4 _ _ l0_5 a0_6 a1 t359 t360 t361 t362 t363 t364 t367 t368 t369 _ ?side1 ?side2 A3.out).mono ?_); (case side1 => repeat ((exact (Kd.C_below HR0_5.out HB.out)))); (case side2 => exact HC0_5.out); rintro e w8 ⟨v365, rfl, ho0, hb⟩; refine ⟨_, rfl, ?_⟩; have HO366 := aM_ (Kd.R_lower ho0 (below_size (belN HB))); replace BK357 := bbA_ BK357 hb; replace BK358 := bbA_ BK358 hb; replace HB := bsA_ HB hb; (try clear hb); (try clear ho0)) | ((with_reducible refine gate_dst (N := 7) rfl ?_); refine box_event ?hg (N := 7) ?hd (cs := #[.int .u64 0, .int .u64 0, .int .u64 0, .int .u64 0, .int .u64 0, .slice none 0 0, .bool false]) (t := 25) ?hr ?_; (case hd => rfl); (case hg => rfl); (case hr => ((go_simp; done))); intro gb370 hg w9 hbox hb; replace HO366 := aM_ (Kd.R_below (Kd.RN HO366) hb); have BK370 := aM_ (hbox); have GW370 := aM_ (geN HB hg); have GE370 := aM_ (geN HB hg); replace HB := bsA_ HB hb; have NB357_370 := aM_ (neN BK357 hg); have NB370_357 := aM_ (neN' BK357 hg); replace BK357 := bbA_ BK357 hb; have NB358_370 := aM_ (neN BK358 hg); have NB370_358 := aM_ (neN' BK358 hg); replace BK358 := bbA_ BK358 hb; clear hb hbox hg; have hnb10 := NB370_357.out; have hnc10 := NB357_370.out; have hnb11 := NB370_358.out; have hnc11 := NB358_370.out; obtain ⟨hcz12_0, hcz12_1, hcz12_2, hcz12_3, hcz12_4, hcz12_5, hcz12_6, hfz12_0, hfz12_1, hfz12_2, hfz12_3, hfz12_4, hfz12_5, hfz12_6⟩ := cz7_ (w := w9) BK370.out; obtain ⟨Ao13, co13, eo13⟩ := Kd.R_slice HO366.out; subst eo13) | ((with_reducible refine gate_store (t := 25) (p := 7) rfl ?_); refine store_event (t := 25) (p := 7) (v := ?vo_w14) (w1 := (((((((w9.setCell ⟨gb370, 0, none⟩ (.int .u64 t359)).setCell ⟨gb370, 1, none⟩ (.int .u64 t360)).setCell ⟨gb370, 2, none⟩ (.int .u64 t361)).setCell ⟨gb370, 3, none⟩ (.int .u64 t362)).setCell ⟨gb370, 4, none⟩ (.int .u64 t363)).setCell ⟨gb370, 5, none⟩ (.slice Ao13 t364.length co13)).setCell ⟨gb370, 6, none⟩ (.bool t367))) ?hg ?ho ?hn ?hr ?_; (case ho => rfl); (case hg => rfl); (case hn => rfl); (case hr => ((go_simp; done))); intro w14 hw; have n0_ : Aside0 (Kd.R k44 44 w14 w.heap.size (fun _ => True) (.slice Ao13 t364.length co13) t364) := ⟨(by rw [hw]; exact (by exact Kd.R_mono (Kd.R_far (p := ⟨gb370, 6, none⟩) (Kd.R_far (p := ⟨gb370, 5, none⟩) (Kd.R_far (p := ⟨gb370, 4, none⟩) (Kd.R_far (p := ⟨gb370, 3, none⟩) (Kd.R_far (p := ⟨gb370, 2, none⟩) (Kd.R_far (p := ⟨gb370, 1, none⟩) (Kd.R_far (p := ⟨gb370, 0, none⟩) (Kd.R_types HO366.out BK370.out (by decide)) (fun _ hk => hk.2) (.int .u64 t359)) (fun _ hk => hk.2) (.int .u64 t360)) (fun _ hk => hk.2) (.int .u64 t361)) (fun _ hk => hk.2) (.int .u64 t362)) (fun _ hk => hk.2) (.int .u64 t363)) (fun _ hk => hk.2) (.slice Ao13 t364.length co13)) (fun _ hk => hk.2) (.bool t367)) (fun _ hk => trivial)))⟩; have n1_ : Aside0 (w14.heap[gb357]? = some (.cells #[.int .u64 a0_0, .int .u64 a0_1, .int .u64 a0_2, .int .u64 a0_3, .int .u64 a0_4, .slice A0_5 l0_5.length c0_5, .bool a0_6] 25 (0, 0))) := ⟨(by rw [hw]; exact (blkF BK357))⟩; have n2_ : Aside0 (w14.heap[gb358]? = some (.cells #[.int .u64 0, .int .u64 0, .int .u64 0, .int .u64 0, .int .u64 0, .slice none 0 0, .bool false] 25 (0, 0))) := ⟨(by rw [hw]; exact (blkF BK358))⟩; have n3_ : Aside0 (w14.heap[gb370]? = some (.cells #[.int .u64 t359, .int .u64 t360, .int .u64 t361, .int .u64 t362, .int .u64 t363, .slice Ao13 t364.length co13, .bool t367] 25 (0, 0))) := ⟨(by rw [hw]; exact (by apply bp7_; exact BK370.out))⟩; have n4_ : Aside0 (Below w.heap.size w w14) := ⟨(by rw [hw]; exact (belN HB))⟩; clear hw; clear HO366; clear BK357; clear BK358; clear BK370; clear HB; have HO366 := n0_; have BK357 := n1_; have BK358 := n2_; have BK370 := n3_; have HB := n4_; clear n0_ n1_ n2_ n3_ n4_; obtain ⟨hcz15_0, hcz15_1, hcz15_2, hcz15_3, hcz15_4, hcz15_5, hcz15_6, hfz15_0, hfz15_1, hfz15_2, hfz15_3, hfz15_4, hfz15_5, hfz15_6⟩ := cz7_ (w := w14) BK370.out; obtain ⟨hcz16_0, hcz16_1, hcz16_2, hcz16_3, hcz16_4, hcz16_5, hcz16_6, hfz16_0, hfz16_1, hfz16_2, hfz16_3, hfz16_4, hfz16_5, hfz16_6⟩ := cz7_ (w := w14) BK358.out) | ((with_reducible refine gate_store (t := 25) (p := 4) rfl ?_); refine store_event (t := 25) (p := 4) (v := ?vo_w17) (w1 := ((((((((w14.setCell ⟨gb370, 2, none⟩ (.int .u64 (IntKind.u64.wrap (t361 + t368)))).setCell ⟨gb358, 0, none⟩ (.int .u64 t359)).setCell ⟨gb358, 1, none⟩ (.int .u64 t360)).setCell ⟨gb358, 2, none⟩ (.int .u64 (IntKind.u64.wrap (t361 + t368)))).setCell ⟨gb358, 3, none⟩ (.int .u64 t362)).setCell ⟨gb358, 4, none⟩ (.int .u64 t363)).setCell ⟨gb358, 5, none⟩ (.slice Ao13 t364.length co13)).setCell ⟨gb358, 6, none⟩ (.bool t367))) ?hg ?ho ?hn ?hr ?_; (case ho => rfl); (case hg => rfl); (case hn => rfl); (case hr => ((go_simp; done))); intro w17 hw; have n0_ : Aside0 (Kd.R k44 44 w17 w.heap.size (fun _ => True) (.slice Ao13 t364.length co13) t364) := ⟨(by rw [hw]; exact (by exact Kd.R_mono (Kd.R_far (p := ⟨gb358, 6, none⟩) (Kd.R_far (p := ⟨gb358, 5, none⟩) (Kd.R_far (p := ⟨gb358, 4, none⟩) (Kd.R_far (p := ⟨gb358, 3, none⟩) (Kd.R_far (p := ⟨gb358, 2, none⟩) (Kd.R_far (p := ⟨gb358, 1, none⟩) (Kd.R_far (p := ⟨gb358, 0, none⟩) (Kd.R_far (p := ⟨gb370, 2, none⟩) (Kd.R_types (Kd.R_types HO366.out BK370.out (by decide)) BK358.out (by decide)) (fun _ hk => hk.1.2) (.int .u64 (IntKind.u64.wrap (t361 + t368)))) (fun _ hk => hk.2) (.int .u64 t359)) (fun _ hk => hk.2) (.int .u64 t360)) (fun _ hk => hk.2) (.int .u64 (IntKind.u64.wrap (t361 + t368)))) (fun _ hk => hk.2) (.int .u64 t362)) (fun _ hk => hk.2) (.int .u64 t363)) (fun _ hk => hk.2) (.slice Ao13 t364.length co13)) (fun _ hk => hk.2) (.bool t367)) (fun _ hk => trivial)))⟩; have n1_ : Aside0 (w17.heap[gb357]? = some (.cells #[.int .u64 a0_0, .int .u64 a0_1, .int .u64 a0_2, .int .u64 a0_3, .int .u64 a0_4, .slice A0_5 l0_5.length c0_5, .bool a0_6] 25 (0, 0))) := ⟨(by rw [hw]; exact (blkF BK357))⟩; have n2_ : Aside0 (w17.heap[gb358]? = some (.cells #[.int .u64 t359, .int .u64 t360, .int .u64 (IntKind.u64.wrap (t361 + t368)), .int .u64 t362, .int .u64 t363, .slice Ao13 t364.length co13, .bool t367] 25 (0, 0))) := ⟨(by rw [hw]; exact (by apply bp7_; refine blk_far ?_ NB358_370.out _; exact BK358.out))⟩; have n3_ : Aside0 (w17.heap[gb370]? = some (.cells #[.int .u64 t359, .int .u64 t360, .int .u64 (IntKind.u64.wrap (t361 + t368)), .int .u64 t362, .int .u64 t363, .slice Ao13 t364.length co13, .bool t367] 25 (0, 0))) := ⟨(by rw [hw]; exact (by refine blk_far ?_ NB370_358.out _; refine blk_far ?_ NB370_358.out _; refine blk_far ?_ NB370_358.out _; refine blk_far ?_ NB370_358.out _; refine blk_far ?_ NB370_358.out _; refine blk_far ?_ NB370_358.out _; refine blk_far ?_ NB370_358.out _; refine blk_put (cs := #[.int .u64 t359, .int .u64 t360, .int .u64 t361, .int .u64 t362, .int .u64 t363, .slice Ao13 t364.length co13, .bool t367]) ?_ 2 _ rfl; exact BK370.out))⟩; have n4_ : Aside0 (Below w.heap.size w w17) := ⟨(by rw [hw]; exact (belN HB))⟩; clear hw; clear HO366; clear BK357; clear BK358; clear BK370; clear HB; have HO366 := n0_; have BK357 := n1_; have BK358 := n2_; have BK370 := n3_; have HB := n4_; clear n0_ n1_ n2_ n3_ n4_))
  refine bodyPost_ret (results_ctt rfl _ _ gb358 25 #[.int .u64 t359, .int .u64 t360, .int .u64 (IntKind.u64.wrap (t361 + t368)), .int .u64 t362, .int .u64 t363, .slice Ao13 t364.length co13, .bool t367] (0, 0) _ rfl (blkN BK358) Try.underlying25 rfl (by kernel_rfl)) rfl ?_
  exact ⟨_, by (rfl), by exact HO366.out, by repeat (((with_reducible (exact HB.out))))⟩

/-! ### damsonref09_Fail: function 41 -/
def damsonref09_Fail.f (k : Nat) (a0_0 : Int) (a0_1 : Int) (a0_2 : Int) (a0_3 : Int) (a0_4 : Int) (l0_5 : List (S44)) (a0_6 : Bool) (a1 : Int) : Option (Int × Int × Int × Int × Int × (List (S44)) × Bool × Int × Int) := (damsonref09_without.f k a0_0 a0_1 a0_2 a0_3 a0_4 l0_5 a0_6 a1).bind fun bt373 => (some (bt373.1, IntKind.u64.wrap (bt373.2.1 + bt373.2.2.2.2.2.2.2.1), bt373.2.2.1, bt373.2.2.2.1, bt373.2.2.2.2.1, bt373.2.2.2.2.2.1, bt373.2.2.2.2.2.2.1, bt373.2.2.2.2.2.2.2.1, bt373.2.2.2.2.2.2.2.2))
theorem damsonref09_Fail.mono : ∀ a0 a1 a2 a3 a4 a5 a6 a7 k, LeO (damsonref09_Fail.f k a0 a1 a2 a3 a4 a5 a6 a7) (damsonref09_Fail.f (k + 1) a0 a1 a2 a3 a4 a5 a6 a7) := by
  intro a0 a1 a2 a3 a4 a5 a6 a7 k
  unfold damsonref09_Fail.f
  repeat' first
      | (with_reducible exact damsonref09_without.mono _ _ _ _ _ _ _ _ _)
      | (with_reducible exact LeO.refl _)
      | (with_reducible refine LeO.bind ?_ (fun _ => ?_))
      | exact damsonref09_without.mono _ _ _ _ _ _ _ _ _
      | exact LeO.none _
      | refine LeO.ite ?_ ?_
      | refine LeO.bind ?_ (fun _ => ?_)
set_option maxHeartbeats 8000000 in
set_option maxRecDepth 100000 in
theorem damsonref09_Fail.calls (k : Nat) (a0_0 : Int) (a0_1 : Int) (a0_2 : Int) (a0_3 : Int) (a0_4 : Int) (A0_5 : Option Addr) (c0_5 : Nat) (l0_5 : List (S44)) (a0_6 : Bool) (a1 : Int) (r1 : Int) (r2 : Int) (r3 : Int) (r4 : Int) (r5 : Int) (r6 : List (S44)) (r7 : Bool) (r8 : Int) (r9 : Int) (w : World) (hr0_5 : Kd.C k44 w A0_5 l0_5.length l0_5) (hc0_5 : l0_5.length ≤ c0_5) (h : damsonref09_Fail.f k a0_0 a0_1 a0_2 a0_3 a0_4 l0_5 a0_6 a1 = some (r1, r2, r3, r4, r5, r6, r7, r8, r9)) :
    Calls Try.prog 41 #[.agg #[.int .u64 a0_0, .int .u64 a0_1, .int .u64 a0_2, .int .u64 a0_3, .int .u64 a0_4, .slice A0_5 l0_5.length c0_5, .bool a0_6], .int .u64 a1] w fun e w' => ∃ v5_ : Value, e = .returned (.tuple #[.agg #[.int .u64 r1, .int .u64 r2, .int .u64 r3, .int .u64 r4, .int .u64 r5, v5_, .bool r7], .int .u64 r8, .int .i64 r9]) ∧ Kd.R k44 44 w' w.heap.size (fun _ => True) v5_ r6 ∧ Below w.heap.size w w' := by
  have hu25 := Try.underlying25
  have HR0_5 := aM_ hr0_5
  have HC0_5 := aM_ hc0_5
  clear hr0_5 hc0_5
  have HB := aM_ (Below.refl w.heap.size w)
  have H : ((damsonref09_without.f k a0_0 a0_1 a0_2 a0_3 a0_4 l0_5 a0_6 a1).bind fun bt373 => (some (bt373.1, IntKind.u64.wrap (bt373.2.1 + bt373.2.2.2.2.2.2.2.1), bt373.2.2.1, bt373.2.2.2.1, bt373.2.2.2.2.1, bt373.2.2.2.2.2.1, bt373.2.2.2.2.2.2.1, bt373.2.2.2.2.2.2.2.1, bt373.2.2.2.2.2.2.2.2))) = some (r1, r2, r3, r4, r5, r6, r7, r8, r9) := h
  clear h
  replace H := oB_ H
  obtain ⟨⟨t373, t374, t375, t376, t377, t378, t381, t382, t383⟩, A30, H⟩ := H
  replace H : (some (t373, IntKind.u64.wrap (t374 + t382), t375, t376, t377, t378, t381, t382, t383)) = some (r1, r2, r3, r4, r5, r6, r7, r8, r9) := H
  have A3 := aM_ A30
  clear A30
  simp only [Option.some.injEq, Prod.mk.injEq] at H
  obtain ⟨rfl, rfl, rfl, rfl, rfl, rfl, rfl, rfl, rfl⟩ := H
  go_enter Try.func41, Try.ntmps41
  go_wp2_with (first | ((with_reducible refine gate_dst (N := 2) rfl ?_); refine box_event ?hg (N := 2) ?hd (cs := #[.int .u64 a0_0, .int .u64 a0_1, .int .u64 a0_2, .int .u64 a0_3, .int .u64 a0_4, .slice A0_5 l0_5.length c0_5, .bool a0_6]) (t := 25) ?hr ?_; (case hd => rfl); (case hg => rfl); (case hr => ((go_simp; done))); intro gb371 hg w4 hbox hb; have BK371 := aM_ (hbox); have GW371 := aM_ (geN HB hg); have GE371 := aM_ (geN HB hg); replace HB := bsA_ HB hb; clear hb hbox hg) | ((with_reducible refine gate_dst (N := 4) rfl ?_); refine box_event ?hg (N := 4) ?hd (cs := #[.int .u64 0, .int .u64 0, .int .u64 0, .int .u64 0, .int .u64 0, .slice none 0 0, .bool false]) (t := 25) ?hr ?_; (case hd => rfl); (case hg => rfl); (case hr => ((go_simp; done))); intro gb372 hg w5 hbox hb; have BK372 := aM_ (hbox); have GW372 := aM_ (geN HB hg); have GE372 := aM_ (geN HB hg); replace HB := bsA_ HB hb; have NB371_372 := aM_ (neN BK371 hg); have NB372_371 := aM_ (neN' BK371 hg); replace BK371 := bbA_ BK371 hb; clear hb hbox hg; have hnb6 := NB371_372.out; have hnc6 := NB372_371.out; obtain ⟨hcz7_0, hcz7_1, hcz7_2, hcz7_3, hcz7_4, hcz7_5, hcz7_6, hfz7_0, hfz7_1, hfz7_2, hfz7_3, hfz7_4, hfz7_5, hfz7_6⟩ := cz7_ (w := w5) BK371.out) | ((with_reducible refine gate_callee (f := 98) rfl ?_); refine gL_ 13 Try.func98 #[.agg #[.int .u64 a0_0, .int .u64 a0_1, .int .u64 a0_2, .int .u64 a0_3, .int .u64 a0_4, .slice A0_5 l0_5.length c0_5, .bool a0_6], .int .u64 a1] ?_; (with_reducible refine (damsonref09_without.calls k a0_0 a0_1 a0_2 a0_3 a0_4 _ _ l0_5 a0_6 a1 t373 t374 t375 t376 t377 t378 t381 t382 t383 _ ?side1 ?side2 A3.out).mono ?_); (case side1 => repeat ((exact (Kd.C_below HR0_5.out HB.out)))); (case side2 => exact HC0_5.out); rintro e w8 ⟨v379, rfl, ho0, hb⟩; refine ⟨_, rfl, ?_⟩; have HO380 := aM_ (Kd.R_lower ho0 (below_size (belN HB))); replace BK371 := bbA_ BK371 hb; replace BK372 := bbA_ BK372 hb; replace HB := bsA_ HB hb; (try clear hb); (try clear ho0)) | ((with_reducible refine gate_dst (N := 7) rfl ?_); refine box_event ?hg (N := 7) ?hd (cs := #[.int .u64 0, .int .u64 0, .int .u64 0, .int .u64 0, .int .u64 0, .slice none 0 0, .bool false]) (t := 25) ?hr ?_; (case hd => rfl); (case hg => rfl); (case hr => ((go_simp; done))); intro gb384 hg w9 hbox hb; replace HO380 := aM_ (Kd.R_below (Kd.RN HO380) hb); have BK384 := aM_ (hbox); have GW384 := aM_ (geN HB hg); have GE384 := aM_ (geN HB hg); replace HB := bsA_ HB hb; have NB371_384 := aM_ (neN BK371 hg); have NB384_371 := aM_ (neN' BK371 hg); replace BK371 := bbA_ BK371 hb; have NB372_384 := aM_ (neN BK372 hg); have NB384_372 := aM_ (neN' BK372 hg); replace BK372 := bbA_ BK372 hb; clear hb hbox hg; have hnb10 := NB384_371.out; have hnc10 := NB371_384.out; have hnb11 := NB384_372.out; have hnc11 := NB372_384.out; obtain ⟨hcz12_0, hcz12_1, hcz12_2, hcz12_3, hcz12_4, hcz12_5, hcz12_6, hfz12_0, hfz12_1, hfz12_2, hfz12_3, hfz12_4, hfz12_5, hfz12_6⟩ := cz7_ (w := w9) BK384.out; obtain ⟨Ao13, co13, eo13⟩ := Kd.R_slice HO380.out; subst eo13) | ((with_reducible refine gate_store (t := 25) (p := 7) rfl ?_); refine store_event (t := 25) (p := 7) (v := ?vo_w14) (w1 := (((((((w9.setCell ⟨gb384, 0, none⟩ (.int .u64 t373)).setCell ⟨gb384, 1, none⟩ (.int .u64 t374)).setCell ⟨gb384, 2, none⟩ (.int .u64 t375)).setCell ⟨gb384, 3, none⟩ (.int .u64 t376)).setCell ⟨gb384, 4, none⟩ (.int .u64 t377)).setCell ⟨gb384, 5, none⟩ (.slice Ao13 t378.length co13)).setCell ⟨gb384, 6, none⟩ (.bool t381))) ?hg ?ho ?hn ?hr ?_; (case ho => rfl); (case hg => rfl); (case hn => rfl); (case hr => ((go_simp; done))); intro w14 hw; have n0_ : Aside0 (Kd.R k44 44 w14 w.heap.size (fun _ => True) (.slice Ao13 t378.length co13) t378) := ⟨(by rw [hw]; exact (by exact Kd.R_mono (Kd.R_far (p := ⟨gb384, 6, none⟩) (Kd.R_far (p := ⟨gb384, 5, none⟩) (Kd.R_far (p := ⟨gb384, 4, none⟩) (Kd.R_far (p := ⟨gb384, 3, none⟩) (Kd.R_far (p := ⟨gb384, 2, none⟩) (Kd.R_far (p := ⟨gb384, 1, none⟩) (Kd.R_far (p := ⟨gb384, 0, none⟩) (Kd.R_types HO380.out BK384.out (by decide)) (fun _ hk => hk.2) (.int .u64 t373)) (fun _ hk => hk.2) (.int .u64 t374)) (fun _ hk => hk.2) (.int .u64 t375)) (fun _ hk => hk.2) (.int .u64 t376)) (fun _ hk => hk.2) (.int .u64 t377)) (fun _ hk => hk.2) (.slice Ao13 t378.length co13)) (fun _ hk => hk.2) (.bool t381)) (fun _ hk => trivial)))⟩; have n1_ : Aside0 (w14.heap[gb371]? = some (.cells #[.int .u64 a0_0, .int .u64 a0_1, .int .u64 a0_2, .int .u64 a0_3, .int .u64 a0_4, .slice A0_5 l0_5.length c0_5, .bool a0_6] 25 (0, 0))) := ⟨(by rw [hw]; exact (blkF BK371))⟩; have n2_ : Aside0 (w14.heap[gb372]? = some (.cells #[.int .u64 0, .int .u64 0, .int .u64 0, .int .u64 0, .int .u64 0, .slice none 0 0, .bool false] 25 (0, 0))) := ⟨(by rw [hw]; exact (blkF BK372))⟩; have n3_ : Aside0 (w14.heap[gb384]? = some (.cells #[.int .u64 t373, .int .u64 t374, .int .u64 t375, .int .u64 t376, .int .u64 t377, .slice Ao13 t378.length co13, .bool t381] 25 (0, 0))) := ⟨(by rw [hw]; exact (by apply bp7_; exact BK384.out))⟩; have n4_ : Aside0 (Below w.heap.size w w14) := ⟨(by rw [hw]; exact (belN HB))⟩; clear hw; clear HO380; clear BK371; clear BK372; clear BK384; clear HB; have HO380 := n0_; have BK371 := n1_; have BK372 := n2_; have BK384 := n3_; have HB := n4_; clear n0_ n1_ n2_ n3_ n4_; obtain ⟨hcz15_0, hcz15_1, hcz15_2, hcz15_3, hcz15_4, hcz15_5, hcz15_6, hfz15_0, hfz15_1, hfz15_2, hfz15_3, hfz15_4, hfz15_5, hfz15_6⟩ := cz7_ (w := w14) BK384.out; obtain ⟨hcz16_0, hcz16_1, hcz16_2, hcz16_3, hcz16_4, hcz16_5, hcz16_6, hfz16_0, hfz16_1, hfz16_2, hfz16_3, hfz16_4, hfz16_5, hfz16_6⟩ := cz7_ (w := w14) BK372.out) | ((with_reducible refine gate_store (t := 25) (p := 4) rfl ?_); refine store_event (t := 25) (p := 4) (v := ?vo_w17) (w1 := ((((((((w14.setCell ⟨gb384, 1, none⟩ (.int .u64 (IntKind.u64.wrap (t374 + t382)))).setCell ⟨gb372, 0, none⟩ (.int .u64 t373)).setCell ⟨gb372, 1, none⟩ (.int .u64 (IntKind.u64.wrap (t374 + t382)))).setCell ⟨gb372, 2, none⟩ (.int .u64 t375)).setCell ⟨gb372, 3, none⟩ (.int .u64 t376)).setCell ⟨gb372, 4, none⟩ (.int .u64 t377)).setCell ⟨gb372, 5, none⟩ (.slice Ao13 t378.length co13)).setCell ⟨gb372, 6, none⟩ (.bool t381))) ?hg ?ho ?hn ?hr ?_; (case ho => rfl); (case hg => rfl); (case hn => rfl); (case hr => ((go_simp; done))); intro w17 hw; have n0_ : Aside0 (Kd.R k44 44 w17 w.heap.size (fun _ => True) (.slice Ao13 t378.length co13) t378) := ⟨(by rw [hw]; exact (by exact Kd.R_mono (Kd.R_far (p := ⟨gb372, 6, none⟩) (Kd.R_far (p := ⟨gb372, 5, none⟩) (Kd.R_far (p := ⟨gb372, 4, none⟩) (Kd.R_far (p := ⟨gb372, 3, none⟩) (Kd.R_far (p := ⟨gb372, 2, none⟩) (Kd.R_far (p := ⟨gb372, 1, none⟩) (Kd.R_far (p := ⟨gb372, 0, none⟩) (Kd.R_far (p := ⟨gb384, 1, none⟩) (Kd.R_types (Kd.R_types HO380.out BK384.out (by decide)) BK372.out (by decide)) (fun _ hk => hk.1.2) (.int .u64 (IntKind.u64.wrap (t374 + t382)))) (fun _ hk => hk.2) (.int .u64 t373)) (fun _ hk => hk.2) (.int .u64 (IntKind.u64.wrap (t374 + t382)))) (fun _ hk => hk.2) (.int .u64 t375)) (fun _ hk => hk.2) (.int .u64 t376)) (fun _ hk => hk.2) (.int .u64 t377)) (fun _ hk => hk.2) (.slice Ao13 t378.length co13)) (fun _ hk => hk.2) (.bool t381)) (fun _ hk => trivial)))⟩; have n1_ : Aside0 (w17.heap[gb371]? = some (.cells #[.int .u64 a0_0, .int .u64 a0_1, .int .u64 a0_2, .int .u64 a0_3, .int .u64 a0_4, .slice A0_5 l0_5.length c0_5, .bool a0_6] 25 (0, 0))) := ⟨(by rw [hw]; exact (blkF BK371))⟩; have n2_ : Aside0 (w17.heap[gb372]? = some (.cells #[.int .u64 t373, .int .u64 (IntKind.u64.wrap (t374 + t382)), .int .u64 t375, .int .u64 t376, .int .u64 t377, .slice Ao13 t378.length co13, .bool t381] 25 (0, 0))) := ⟨(by rw [hw]; exact (by apply bp7_; refine blk_far ?_ NB372_384.out _; exact BK372.out))⟩; have n3_ : Aside0 (w17.heap[gb384]? = some (.cells #[.int .u64 t373, .int .u64 (IntKind.u64.wrap (t374 + t382)), .int .u64 t375, .int .u64 t376, .int .u64 t377, .slice Ao13 t378.length co13, .bool t381] 25 (0, 0))) := ⟨(by rw [hw]; exact (by refine blk_far ?_ NB384_372.out _; refine blk_far ?_ NB384_372.out _; refine blk_far ?_ NB384_372.out _; refine blk_far ?_ NB384_372.out _; refine blk_far ?_ NB384_372.out _; refine blk_far ?_ NB384_372.out _; refine blk_far ?_ NB384_372.out _; refine blk_put (cs := #[.int .u64 t373, .int .u64 t374, .int .u64 t375, .int .u64 t376, .int .u64 t377, .slice Ao13 t378.length co13, .bool t381]) ?_ 1 _ rfl; exact BK384.out))⟩; have n4_ : Aside0 (Below w.heap.size w w17) := ⟨(by rw [hw]; exact (belN HB))⟩; clear hw; clear HO380; clear BK371; clear BK372; clear BK384; clear HB; have HO380 := n0_; have BK371 := n1_; have BK372 := n2_; have BK384 := n3_; have HB := n4_; clear n0_ n1_ n2_ n3_ n4_))
  refine bodyPost_ret (results_ctt rfl _ _ gb372 25 #[.int .u64 t373, .int .u64 (IntKind.u64.wrap (t374 + t382)), .int .u64 t375, .int .u64 t376, .int .u64 t377, .slice Ao13 t378.length co13, .bool t381] (0, 0) _ rfl (blkN BK372) Try.underlying25 rfl (by kernel_rfl)) rfl ?_
  exact ⟨_, by (rfl), by exact HO380.out, by repeat (((with_reducible (exact HB.out))))⟩

/-! ### damsonref10_Where: function 51 -/
def damsonref10_Where.f (k : Nat) (l0 : List (S25)) (a1 : Int) : Option (Int × Int) := (damsonref10_Check.f k l0).bind fun t385 => (if t385 = 0 then ((damsonref10_where.f k l0 a1).bind fun t386 => (if t386 < 0 then (some (0, 5)) else (if 0 ≤ t386 then (if t386 < (l0.length : Int) then (some ((rd_T25 l0 t386).f0, 0)) else (none)) else (none)))) else (some (0, 1)))
theorem damsonref10_Where.mono : ∀ a0 a1 k, LeO (damsonref10_Where.f k a0 a1) (damsonref10_Where.f (k + 1) a0 a1) := by
  intro a0 a1 k
  unfold damsonref10_Where.f
  repeat' first
      | (with_reducible exact damsonref10_Check.mono _ _)
      | (with_reducible exact damsonref10_where.mono _ _ _)
      | (with_reducible exact LeO.refl _)
      | (with_reducible refine LeO.ite ?_ ?_)
      | (with_reducible refine LeO.bind ?_ (fun _ => ?_))
      | exact damsonref10_Check.mono _ _
      | exact damsonref10_where.mono _ _ _
      | exact LeO.none _
      | refine LeO.ite ?_ ?_
      | refine LeO.bind ?_ (fun _ => ?_)
set_option maxHeartbeats 8000000 in
set_option maxRecDepth 100000 in
theorem damsonref10_Where.calls (k : Nat) (A0 : Option Addr) (c0 : Nat) (l0 : List (S25)) (a1 : Int) (r1 : Int) (r2 : Int) (w : World) (hr0 : Kd.C k25 w A0 l0.length l0) (hc0 : l0.length ≤ c0) (h : damsonref10_Where.f k l0 a1 = some (r1, r2)) :
    Calls Try.prog 51 #[.slice A0 l0.length c0, .int .u64 a1] w fun e w' => e = .returned (.tuple #[.int .u64 r1, .int .i64 r2]) ∧ Below w.heap.size w w' := by
  have HR0 := aM_ hr0
  have HC0 := aM_ hc0
  clear hr0 hc0
  have HB := aM_ (Below.refl w.heap.size w)
  have H : ((damsonref10_Check.f k l0).bind fun t385 => (if t385 = 0 then ((damsonref10_where.f k l0 a1).bind fun t386 => (if t386 < 0 then (some (0, 5)) else (if 0 ≤ t386 then (if t386 < (l0.length : Int) then (some ((rd_T25 l0 t386).f0, 0)) else (none)) else (none)))) else (some (0, 1)))) = some (r1, r2) := h
  clear h
  replace H := oB_ H
  obtain ⟨t385, A30, H⟩ := H
  replace H : (if t385 = 0 then ((damsonref10_where.f k l0 a1).bind fun t386 => (if t386 < 0 then (some (0, 5)) else (if 0 ≤ t386 then (if t386 < (l0.length : Int) then (some ((rd_T25 l0 t386).f0, 0)) else (none)) else (none)))) else (some (0, 1))) = some (r1, r2) := H
  have A3 := aM_ A30
  clear A30
  by_cases c4 : t385 = 0
  · rw [if_pos c4] at H
    have c4b0 : (t385 == 0) = true := beq_iff_eq.mpr c4
    have c4b1 : (t385 != 0) = false := bne_eq_false_iff_eq.mpr c4
    clear c4
    replace H := oB_ H
    obtain ⟨t386, A50, H⟩ := H
    replace H : (if t386 < 0 then (some (0, 5)) else (if 0 ≤ t386 then (if t386 < (l0.length : Int) then (some ((rd_T25 l0 t386).f0, 0)) else (none)) else (none))) = some (r1, r2) := H
    have A5 := aM_ A50
    clear A50
    by_cases c6 : t386 < 0
    · rw [if_pos c6] at H
      have c6b0 := decide_eq_true c6
      clear c6
      simp only [Option.some.injEq, Prod.mk.injEq] at H
      obtain ⟨rfl, rfl⟩ := H
      go_enter Try.func51, Try.ntmps51
      go_wp2_with (first | ((with_reducible refine gate_callee (f := 55) rfl ?_); refine gL_ 8 Try.func55 #[.slice A0 l0.length c0] ?_; (with_reducible refine (damsonref10_Check.calls k _ _ l0 t385 _ ?side1 ?side2 A3.out).mono ?_); (case side1 => repeat ((exact HR0.out))); (case side2 => exact HC0.out); rintro e w7 ⟨rfl, hb⟩; refine ⟨_, rfl, ?_⟩; replace HB := bsA_ HB hb; (try clear hb)) | ((with_reducible refine gate_callee (f := 108) rfl ?_); refine gL_ 12 Try.func108 #[.slice A0 l0.length c0, .int .u64 a1] ?_; (with_reducible refine (damsonref10_where.calls k _ _ l0 a1 t386 _ ?side1 ?side2 A5.out).mono ?_); (case side1 => repeat ((exact (Kd.C_below HR0.out HB.out)))); (case side2 => exact HC0.out); rintro e w8 ⟨rfl, hb⟩; refine ⟨_, rfl, ?_⟩; replace HB := bsA_ HB hb; (try clear hb)))
      go_ret2
      exact ⟨by (rfl), by repeat (((with_reducible (exact HB.out))))⟩
    · rw [if_neg c6] at H
      have c6b0 := decide_eq_false c6
      clear c6
      by_cases c9 : 0 ≤ t386
      · rw [if_pos c9] at H
        have c9b0 := decide_eq_true c9
        clear c9
        by_cases c10 : t386 < (l0.length : Int)
        · rw [if_pos c10] at H
          have c10b0 := decide_eq_true c10
          clear c10
          simp only [Option.some.injEq, Prod.mk.injEq] at H
          obtain ⟨rfl, rfl⟩ := H
          go_enter Try.func51, Try.ntmps51
          go_wp2_with (first | ((with_reducible refine gate_callee (f := 55) rfl ?_); refine gL_ 8 Try.func55 #[.slice A0 l0.length c0] ?_; (with_reducible refine (damsonref10_Check.calls k _ _ l0 t385 _ ?side1 ?side2 A3.out).mono ?_); (case side1 => repeat ((exact HR0.out))); (case side2 => exact HC0.out); rintro e w11 ⟨rfl, hb⟩; refine ⟨_, rfl, ?_⟩; replace HB := bsA_ HB hb; (try clear hb)) | ((with_reducible refine gate_callee (f := 108) rfl ?_); refine gL_ 12 Try.func108 #[.slice A0 l0.length c0, .int .u64 a1] ?_; (with_reducible refine (damsonref10_where.calls k _ _ l0 a1 t386 _ ?side1 ?side2 A5.out).mono ?_); (case side1 => repeat ((exact (Kd.C_below HR0.out HB.out)))); (case side2 => exact HC0.out); rintro e w12 ⟨rfl, hb⟩; refine ⟨_, rfl, ?_⟩; replace HB := bsA_ HB hb; (try clear hb); have p387 : 0 ≤ (t386 : Int) := of_decide_eq_true (by ((with_reducible assumption))); have q387 : t386 < (l0.length : Int) := of_decide_eq_true (by ((with_reducible assumption))); obtain ⟨ad387, A387_5, c387_5, e387, hx387_0, hx387_1, hx387_2, hx387_3, hx387_4, hx387_5, hx387_6, hl387_5, hi387_5⟩ := at_T25 HR0.out t386 p387 q387; cases e387; replace hx387_0 := cN_ HB hx387_0; replace hx387_1 := cN_ HB hx387_1; replace hx387_2 := cN_ HB hx387_2; replace hx387_3 := cN_ HB hx387_3; replace hx387_4 := cN_ HB hx387_4; replace hx387_5 := cN_ HB hx387_5; replace hx387_6 := cN_ HB hx387_6; have HR387_5 := aM_ hi387_5; have HC387_5 := aM_ hl387_5; clear hi387_5 hl387_5; replace p387 := eq_true p387; replace q387 := eq_true q387))
          go_ret2
          exact ⟨by (rfl), by repeat (((with_reducible (exact HB.out))))⟩
        · rw [if_neg c10] at H
          exact absurd H (by simp)
      · rw [if_neg c9] at H
        exact absurd H (by simp)
  · rw [if_neg c4] at H
    have c4b0 : (t385 == 0) = false := beq_eq_false_iff_ne.mpr c4
    have c4b1 : (t385 != 0) = true := bne_iff_ne.mpr c4
    simp only [Option.some.injEq, Prod.mk.injEq] at H
    obtain ⟨rfl, rfl⟩ := H
    go_enter Try.func51, Try.ntmps51
    go_wp2_with ((((with_reducible refine gate_callee (f := 55) rfl ?_); refine gL_ 8 Try.func55 #[.slice A0 l0.length c0] ?_; (with_reducible refine (damsonref10_Check.calls k _ _ l0 t385 _ ?side1 ?side2 A3.out).mono ?_); (case side1 => repeat ((exact HR0.out))); (case side2 => exact HC0.out); rintro e w13 ⟨rfl, hb⟩; refine ⟨_, rfl, ?_⟩; replace HB := bsA_ HB hb; (try clear hb))))
    go_ret2
    exact ⟨by (rfl), by repeat (((with_reducible (exact HB.out))))⟩

end Go.Proofs.Ytcfbcoinbecdfaa.P
