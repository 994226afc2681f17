-- written by a program of this session (wip/print)
import Derived.Test.YtcfbcoinbecdfaaQLdoesx0
import Derived.Test.YtcfbcoinbecdfaaQLdoesx2
import Derived.Test.YtcfbcoinbecdfaaQLdoesx4
import Derived.Test.YtcfbcoinbecdfaaQLdoesx5
namespace Go.Proofs.Ytcfbcoinbecdfaa.P
open Go.RowKit Go.Proofs.YtcfbcoinbecdfaaW.PrintWords Go.Proofs.YtcfbcoinbecdfaaW.PrintLast Go.Proofs.YtcfbcoinbecdfaaW.PrintMore
attribute [local go_sem] max2_int min2_int max_two min_two max_three min_three max_four min_four run_sub64_   -- for this text's walks alone
set_option linter.unusedVariables false
set_option linter.unusedSimpArgs false

/-! ### ledger_Open: function 46 (by hand) -/
def ledger_Open.g (k : Nat) (l : List S25) (c : S25) : Option (List S25 × Int) := (channel_Check.f k c.f0 c.f1 c.f2 c.f3 c.f4 c.f5 c.f6).bind fun e => if e = 0 then (if c.f6 = true then (if 0 < c.f5.length then some ([], 1) else
  (ledger_Check.f k l).bind fun e2 => if e2 = 0 then (slices_BinarySearchFunc_uint64_at_ledger_order.f k l c.f0).bind fun p => if p.2 = true then some ([], 6) else if l.length = 32 then some ([], 7) else
    (ledger_owns.f l).bind fun m => if 0 ≤ p.1 ∧ p.1 ≤ (l.length : Int) then (ledger_Check.f k (l.take p.1.toNat ++ [c] ++ l.drop p.1.toNat)).bind fun e3 => if e3 = 0 then some (l.take p.1.toNat ++ [c] ++ l.drop p.1.toNat, 0) else some ([], 8) else none
  else some ([], 1)) else some ([], 1)) else some ([], 1)
theorem ledger_Open.mono_g (l : List S25) (c : S25) (k : Nat) : LeO (ledger_Open.g k l c) (ledger_Open.g (k + 1) l c) := by
  unfold ledger_Open.g
  repeat' first
    | (with_reducible exact LeO.refl _)
    | apply channel_Check.mono
    | apply ledger_Check.mono
    | apply slices_BinarySearchFunc_uint64_at_ledger_order.mono
    | (with_reducible refine LeO.ite ?_ ?_)
    | (with_reducible refine LeO.bind ?_ (fun _ => ?_))
set_option maxHeartbeats 16000000 in
set_option maxRecDepth 100000 in
theorem ledger_Open.callsS (k : Nat) (A0 : Option Addr) (c0 : Nat) (l : List S25) (c : S25) (A1 : Option Addr) (c1 : Nat) (r : List S25) (er : Int) (w : World) (hr0 : Kd.C k25 w A0 l.length l) (hc0 : l.length ≤ c0) (hr1 : Kd.C k44 w A1 c.f5.length c.f5) (hc1 : c.f5.length ≤ c1) (h : ledger_Open.g k l c = some (r, er)) :
    Calls Try.prog 46 #[.slice A0 l.length c0, .agg #[.int .u64 c.f0, .int .u64 c.f1, .int .u64 c.f2, .int .u64 c.f3, .int .u64 c.f4, .slice A1 c.f5.length c1, .bool c.f6]] w fun e w' => ∃ v : Value, e = .returned (.tuple #[v, .int .i64 er]) ∧ Own25 w' w.heap.size v r ∧ Below w.heap.size w w' := by
  have HR0 := aM_ hr0
  have HC0 := aM_ hc0
  have HR1 := aM_ hr1
  have HC1 := aM_ hc1
  clear hr0 hc0 hr1 hc1
  have HB := aM_ ((Below.refl w.heap.size w).alloc (Nat.le_refl _) (.cells #[.int .u64 c.f0, .int .u64 c.f1, .int .u64 c.f2, .int .u64 c.f3, .int .u64 c.f4, .slice A1 c.f5.length c1, .bool c.f6] 25))
  have HK := aM_ (blk_new w (.cells #[.int .u64 c.f0, .int .u64 c.f1, .int .u64 c.f2, .int .u64 c.f3, .int .u64 c.f4, .slice A1 c.f5.length c1, .bool c.f6] 25))
  unfold ledger_Open.g at h
  obtain ⟨e1, h1, h_⟩ := oB_ h
  replace h := h_
  clear h_
  have HF1 := aM_ h1
  clear h1
  by_cases he1 : e1 = 0
  case neg =>
    rw [if_neg he1] at h
    have he1b : (e1 != 0) = true := bne_iff_ne.mpr he1
    clear he1
    injection h with h
    injection h with hh1 hh2
    subst hh1 hh2
    go_enter Try.func46, Try.ntmps46
    go_wp2_with (((go_at_call 33; refine (channel_Check.calls k c.f0 c.f1 c.f2 c.f3 c.f4 A1 c1 c.f5 c.f6 e1 _ (Kd.C_below HR1.out HB.out) HC1.out HF1.out).mono ?_; rintro e w1 ⟨rfl, hb⟩; clear HF1; replace HB := aM_ (below_then HB.out HB.out.size hb); replace HK := aM_ (blk_below HK.out hb); obtain ⟨hz0, hz1, hz2, hz3, hz4, hz5, hz6, hz7, hz8, hz9, hz10, hz11, hz12, hz13⟩ := cz7_ HK.out; clear hb)))
    go_ret2
    exact ⟨_, rfl, Own25.nil _ _, HB.out⟩
  subst he1
  rw [if_pos rfl] at h
  by_cases hop : c.f6 = true
  case neg =>
    rw [if_neg hop] at h
    have hopb : c.f6 = false := by simpa using hop
    have HOPB := aM_ hopb
    clear hop hopb
    injection h with h
    injection h with hh1 hh2
    subst hh1 hh2
    go_enter Try.func46, Try.ntmps46
    go_wp2_with (((go_at_call 33; refine (channel_Check.calls k c.f0 c.f1 c.f2 c.f3 c.f4 A1 c1 c.f5 c.f6 0 _ (Kd.C_below HR1.out HB.out) HC1.out HF1.out).mono ?_; rintro e w1 ⟨rfl, hb⟩; clear HF1; replace HB := aM_ (below_then HB.out HB.out.size hb); replace HK := aM_ (blk_below HK.out hb); obtain ⟨hz0, hz1, hz2, hz3, hz4, hz5, hz6, hz7, hz8, hz9, hz10, hz11, hz12, hz13⟩ := cz7_ HK.out; have hopb := HOPB.out; clear hb)))
    go_ret2
    exact ⟨_, rfl, Own25.nil _ _, HB.out⟩
  rw [if_pos hop] at h
  have HOP := aM_ hop
  clear hop
  by_cases hl5 : 0 < c.f5.length
  · rw [if_pos hl5] at h
    have hl5b : decide ((0 : Int) < (c.f5.length : Int)) = true := decide_eq_true (by omega)
    have hl5n : decide (0 < c.f5.length) = true := decide_eq_true hl5
    clear hl5
    injection h with h
    injection h with hh1 hh2
    subst hh1 hh2
    go_enter Try.func46, Try.ntmps46
    go_wp2_with (((go_at_call 33; refine (channel_Check.calls k c.f0 c.f1 c.f2 c.f3 c.f4 A1 c1 c.f5 c.f6 0 _ (Kd.C_below HR1.out HB.out) HC1.out HF1.out).mono ?_; rintro e w1 ⟨rfl, hb⟩; clear HF1; replace HB := aM_ (below_then HB.out HB.out.size hb); replace HK := aM_ (blk_below HK.out hb); obtain ⟨hz0, hz1, hz2, hz3, hz4, hz5, hz6, hz7, hz8, hz9, hz10, hz11, hz12, hz13⟩ := cz7_ HK.out; have hop := HOP.out; clear hb)))
    go_ret2
    exact ⟨_, rfl, Own25.nil _ _, HB.out⟩
  rw [if_neg hl5] at h
  have hl5b : decide ((0 : Int) < (c.f5.length : Int)) = false := decide_eq_false (by omega)
  have hl5n : decide (0 < c.f5.length) = false := decide_eq_false hl5
  clear hl5
  obtain ⟨e2, h1, h_⟩ := oB_ h
  replace h := h_
  clear h_
  have HF2 := aM_ h1
  clear h1
  by_cases he2 : e2 = 0
  case neg =>
    rw [if_neg he2] at h
    have he2b : (e2 != 0) = true := bne_iff_ne.mpr he2
    clear he2
    injection h with h
    injection h with hh1 hh2
    subst hh1 hh2
    go_enter Try.func46, Try.ntmps46
    go_wp2_with (first | (go_at_call 33; refine (channel_Check.calls k c.f0 c.f1 c.f2 c.f3 c.f4 A1 c1 c.f5 c.f6 0 _ (Kd.C_below HR1.out HB.out) HC1.out HF1.out).mono ?_; rintro e w1 ⟨rfl, hb⟩; clear HF1; replace HB := aM_ (below_then HB.out HB.out.size hb); replace HK := aM_ (blk_below HK.out hb); obtain ⟨hz0, hz1, hz2, hz3, hz4, hz5, hz6, hz7, hz8, hz9, hz10, hz11, hz12, hz13⟩ := cz7_ HK.out; have hop := HOP.out; clear hb) | (go_at_call 54; refine (ledger_Check.calls k A0 c0 l e2 _ (Kd.C_below HR0.out HB.out) HC0.out HF2.out).mono ?_; rintro e w2 ⟨rfl, hb⟩; clear HF2; clear hop; clear hz0 hz1 hz2 hz3 hz4 hz5 hz6 hz7 hz8 hz9 hz10 hz11 hz12 hz13; replace HB := aM_ (below_then HB.out HB.out.size hb); replace HK := aM_ (blk_below HK.out hb); obtain ⟨hz0, hz1, hz2, hz3, hz4, hz5, hz6, hz7, hz8, hz9, hz10, hz11, hz12, hz13⟩ := cz7_ HK.out; clear hb))
    go_ret2
    exact ⟨_, rfl, Own25.nil _ _, HB.out⟩
  subst he2
  rw [if_pos rfl] at h
  obtain ⟨⟨pi, pb⟩, h1, h_⟩ := oB_ h
  replace h := h_
  clear h_
  have HF3 := aM_ h1
  clear h1
  dsimp only at h
  cases pb with
  | true =>
    rw [if_pos rfl] at h
    injection h with h
    injection h with hh1 hh2
    subst hh1 hh2
    go_enter Try.func46, Try.ntmps46
    go_wp2_with (first | (go_at_call 33; refine (channel_Check.calls k c.f0 c.f1 c.f2 c.f3 c.f4 A1 c1 c.f5 c.f6 0 _ (Kd.C_below HR1.out HB.out) HC1.out HF1.out).mono ?_; rintro e w1 ⟨rfl, hb⟩; clear HF1; replace HB := aM_ (below_then HB.out HB.out.size hb); replace HK := aM_ (blk_below HK.out hb); obtain ⟨hz0, hz1, hz2, hz3, hz4, hz5, hz6, hz7, hz8, hz9, hz10, hz11, hz12, hz13⟩ := cz7_ HK.out; have hop := HOP.out; clear hb) | (go_at_call 54; refine (ledger_Check.calls k A0 c0 l 0 _ (Kd.C_below HR0.out HB.out) HC0.out HF2.out).mono ?_; rintro e w2 ⟨rfl, hb⟩; clear HF2; clear hop; clear hz0 hz1 hz2 hz3 hz4 hz5 hz6 hz7 hz8 hz9 hz10 hz11 hz12 hz13; replace HB := aM_ (below_then HB.out HB.out.size hb); replace HK := aM_ (blk_below HK.out hb); obtain ⟨hz0, hz1, hz2, hz3, hz4, hz5, hz6, hz7, hz8, hz9, hz10, hz11, hz12, hz13⟩ := cz7_ HK.out; clear hb) | (go_at_call 99; refine (slices_BinarySearchFunc_uint64_at_ledger_order.calls k A0 c0 l c.f0 pi true _ (Kd.C_below HR0.out HB.out) HC0.out HF3.out).mono ?_; rintro e w3 ⟨rfl, hb⟩; clear HF3; clear hz0 hz1 hz2 hz3 hz4 hz5 hz6 hz7 hz8 hz9 hz10 hz11 hz12 hz13; replace HB := aM_ (below_then HB.out HB.out.size hb); replace HK := aM_ (blk_below HK.out hb); clear hb))
    go_ret2
    exact ⟨_, rfl, Own25.nil _ _, HB.out⟩
  | false =>
  rw [if_neg (by decide)] at h
  by_cases h32 : l.length = 32
  · rw [if_pos h32] at h
    have h32b : ((l.length : Int) == 32) = true := by rw [h32]; rfl
    have h32n : (l.length == 32) = true := by rw [h32]; rfl
    clear h32
    injection h with h
    injection h with hh1 hh2
    subst hh1 hh2
    go_enter Try.func46, Try.ntmps46
    go_wp2_with (first | (go_at_call 33; refine (channel_Check.calls k c.f0 c.f1 c.f2 c.f3 c.f4 A1 c1 c.f5 c.f6 0 _ (Kd.C_below HR1.out HB.out) HC1.out HF1.out).mono ?_; rintro e w1 ⟨rfl, hb⟩; clear HF1; replace HB := aM_ (below_then HB.out HB.out.size hb); replace HK := aM_ (blk_below HK.out hb); obtain ⟨hz0, hz1, hz2, hz3, hz4, hz5, hz6, hz7, hz8, hz9, hz10, hz11, hz12, hz13⟩ := cz7_ HK.out; have hop := HOP.out; clear hb) | (go_at_call 54; refine (ledger_Check.calls k A0 c0 l 0 _ (Kd.C_below HR0.out HB.out) HC0.out HF2.out).mono ?_; rintro e w2 ⟨rfl, hb⟩; clear HF2; clear hop; clear hz0 hz1 hz2 hz3 hz4 hz5 hz6 hz7 hz8 hz9 hz10 hz11 hz12 hz13; replace HB := aM_ (below_then HB.out HB.out.size hb); replace HK := aM_ (blk_below HK.out hb); obtain ⟨hz0, hz1, hz2, hz3, hz4, hz5, hz6, hz7, hz8, hz9, hz10, hz11, hz12, hz13⟩ := cz7_ HK.out; clear hb) | (go_at_call 99; refine (slices_BinarySearchFunc_uint64_at_ledger_order.calls k A0 c0 l c.f0 pi false _ (Kd.C_below HR0.out HB.out) HC0.out HF3.out).mono ?_; rintro e w3 ⟨rfl, hb⟩; clear HF3; clear hz0 hz1 hz2 hz3 hz4 hz5 hz6 hz7 hz8 hz9 hz10 hz11 hz12 hz13; replace HB := aM_ (below_then HB.out HB.out.size hb); replace HK := aM_ (blk_below HK.out hb); clear hb))
    go_ret2
    exact ⟨_, rfl, Own25.nil _ _, HB.out⟩
  rw [if_neg h32] at h
  have h32b : ((l.length : Int) == 32) = false := beq_eq_false_iff_ne.mpr (by omega)
  have h32n : (l.length == 32) = false := beq_eq_false_iff_ne.mpr h32
  clear h32
  obtain ⟨m, h1, h_⟩ := oB_ h
  replace h := h_
  clear h_
  have HF4 := aM_ h1
  clear h1
  by_cases hpi : 0 ≤ pi ∧ pi ≤ (l.length : Int)
  case neg => rw [if_neg hpi] at h; cases h
  rw [if_pos hpi] at h
  obtain ⟨hp0, hp1⟩ := hpi
  have hm : m = l := owns_eq HF4.out
  subst hm
  obtain ⟨i, rfl⟩ := Int.eq_ofNat_of_zero_le hp0
  have hi : i ≤ m.length := by omega
  clear hp0 hp1
  rw [Int.toNat_natCast] at h
  obtain ⟨e3, h1, h_⟩ := oB_ h
  replace h := h_
  clear h_
  obtain ⟨q, hq⟩ : ∃ q, q = m.take i ++ [c] ++ m.drop i := ⟨_, rfl⟩
  rw [← hq] at h h1
  have HQ := aM_ hq
  clear hq
  have HF5 := aM_ h1
  have HI := aM_ hi
  have hl0 : c.f5.length ≤ 1000 := by have := of_decide_eq_false hl5n; omega
  have HL0 := aM_ hl0
  clear hl0
  clear h1 hi
  have hml : m.length ≤ 1000 := by
    have := HF4.out
    unfold ledger_owns.f at this
    by_cases q : m.length ≤ 1000 ∧ m.all (fun x => decide (x.f5.length ≤ 1000)) = true
    · exact q.1
    · rw [if_neg q] at this; cases this
  have HML := aM_ hml
  clear hml
  go_enter Try.func46, Try.ntmps46
  go_wp2_with (first | (go_at_call 33; refine (channel_Check.calls k c.f0 c.f1 c.f2 c.f3 c.f4 A1 c1 c.f5 c.f6 0 _ (Kd.C_below HR1.out HB.out) HC1.out HF1.out).mono ?_; rintro e w1 ⟨rfl, hb⟩; clear HF1; replace HB := aM_ (below_then HB.out HB.out.size hb); replace HK := aM_ (blk_below HK.out hb); obtain ⟨hz0, hz1, hz2, hz3, hz4, hz5, hz6, hz7, hz8, hz9, hz10, hz11, hz12, hz13⟩ := cz7_ HK.out; have hop := HOP.out; clear hb) | (go_at_call 54; refine (ledger_Check.calls k A0 c0 m 0 _ (Kd.C_below HR0.out HB.out) HC0.out HF2.out).mono ?_; rintro e w2 ⟨rfl, hb⟩; clear HF2; clear hop; clear hz0 hz1 hz2 hz3 hz4 hz5 hz6 hz7 hz8 hz9 hz10 hz11 hz12 hz13; replace HB := aM_ (below_then HB.out HB.out.size hb); replace HK := aM_ (blk_below HK.out hb); obtain ⟨hz0, hz1, hz2, hz3, hz4, hz5, hz6, hz7, hz8, hz9, hz10, hz11, hz12, hz13⟩ := cz7_ HK.out; clear hb) | (go_at_call 99; refine (slices_BinarySearchFunc_uint64_at_ledger_order.calls k A0 c0 m c.f0 (i : Int) false _ (Kd.C_below HR0.out HB.out) HC0.out HF3.out).mono ?_; rintro e w3 ⟨rfl, hb⟩; clear HF3; clear hz0 hz1 hz2 hz3 hz4 hz5 hz6 hz7 hz8 hz9 hz10 hz11 hz12 hz13; replace HB := aM_ (below_then HB.out HB.out.size hb); replace HK := aM_ (blk_below HK.out hb); clear hb))
  replace HB := aM_ (below_drew1 HB.out)
  replace HK := aM_ (blk_drew HK.out)
  refine start_ (n := 8) (S := fun w' => w'.cell? ⟨w.heap.size, 0, none⟩ = some (.int .u64 c.f0) ∧ w'.cell? ⟨w.heap.size, 1, none⟩ = some (.int .u64 c.f1) ∧ w'.cell? ⟨w.heap.size, 2, none⟩ = some (.int .u64 c.f2) ∧ w'.cell? ⟨w.heap.size, 3, none⟩ = some (.int .u64 c.f3) ∧ w'.cell? ⟨w.heap.size, 4, none⟩ = some (.int .u64 c.f4) ∧ w'.cell? ⟨w.heap.size, 5, none⟩ = some (.slice A1 c.f5.length c1) ∧ w'.cell? ⟨w.heap.size, 6, none⟩ = some (.bool c.f6)) (ds := []) #[false, false, false, false, false, false, false, false] (by kernel_rfl) rfl rfl ⟨(blk_cell HK.out 0).trans rfl, (blk_cell HK.out 1).trans rfl, (blk_cell HK.out 2).trans rfl, (blk_cell HK.out 3).trans rfl, (blk_cell HK.out 4).trans rfl, (blk_cell HK.out 5).trans rfl, (blk_cell HK.out 6).trans rfl⟩ (fun hHeld => ?_)
  generalize w3.drew = wd at HB HK hHeld ⊢
  refine pure_ (i := 0) (N := some 40) (v := ?_) (a' := ?_) #[true, false, false, false, false, false, false, false] rfl rfl (by kernel_rfl) (fun _ _ _ h => h) (Or.inl ⟨by rfl, ?_⟩) ?_ ?_
  rotate_left
  · intro w'
    go_simp
    with_reducible rfl
  rotate_left
  · simp only [Act.put, List.setIfInBounds_toArray, List.set_cons_zero, List.set_cons_succ, i64_w, i32_w]
    rfl
  refine pure_ (i := 2) (N := some 42) (v := ?_) (a' := ?_) #[true, false, true, false, false, false, false, false] rfl rfl (by kernel_rfl) (fun _ _ _ h => h) (Or.inl ⟨by rfl, ?_⟩) ?_ ?_
  rotate_left
  · intro w'
    go_simp
    with_reducible rfl
  rotate_left
  · simp only [Act.put, List.setIfInBounds_toArray, List.set_cons_zero, List.set_cons_succ, i64_w, i32_w]
    rfl
  refine take_ (i := 3) (N := some 43) (v := ?_) (a' := ?_) #[true, false, true, true, false, false, false, false] rfl rfl (by kernel_rfl) (fun _ _ _ h => h) (Or.inl ⟨by rfl, ?_⟩) hHeld ?_ ?_
  rotate_left
  · rintro w' ⟨s0, s1, s2, s3, s4, s5, s6⟩
    go_simp
    with_reducible rfl
  rotate_left
  · simp only [Act.put, List.setIfInBounds_toArray, List.set_cons_zero, List.set_cons_succ, i64_w, i32_w]
    rfl
  refine one_ (i := 1) (N := some 41) #[true, true, true, true, false, false, false, false] rfl rfl (by kernel_rfl) (by decide) (fun K hK => ?_)
  refine goes_ Try.func102 (by kernel_rfl) rfl #[.slice A0 m.length c0] (by rfl) rfl rfl (by (try simp only [List.map_toArray, List.map_cons, List.map_nil]); (rfl)) ?_
  refine (ledger_owns.calls A0 c0 m m _ (Kd.C_below HR0.out HB.out) HC0.out HF4.out).mono ?_
  rintro e w6 ⟨v, rfl, how, hb⟩
  refine ⟨_, rfl, ?_⟩
  have hws := HB.out.size
  have hkw := blk_lt HK.out
  replace HB := aM_ (below_then HB.out HB.out.size hb)
  replace HK := aM_ (blk_below HK.out hb)
  obtain ⟨rows, hR, hrl, hrx⟩ := how
  have HVB := aM_ (fun k_ (hk : v.ownBlock = some k_) => Nat.lt_of_lt_of_le hkw (Kd.R_base hR k_ hk))
  have HR := aM_ (Kd.R_lower hR hws)
  have HRL := aM_ hrl
  have HRX : Aside0 (Rows25 w6 w.heap.size m rows) := ⟨fun j x hj => by obtain ⟨cs, q1, q2⟩ := hrx j x hj; exact ⟨cs, q1, q2.mono hws⟩⟩
  clear hb hR hrl hrx hws hkw
  refine hK.out _ _ ⟨(blk_cell HK.out 0).trans rfl, (blk_cell HK.out 1).trans rfl, (blk_cell HK.out 2).trans rfl, (blk_cell HK.out 3).trans rfl, (blk_cell HK.out 4).trans rfl, (blk_cell HK.out 5).trans rfl, (blk_cell HK.out 6).trans rfl⟩ (fun hHeld => ?_)
  clear hK K
  refine norm_ (a' := ?_) ?_ ?_
  rotate_left
  · show Act.put _ (some 41) _ = _
    simp only [Act.put, List.setIfInBounds_toArray, List.set_cons_zero, List.set_cons_succ, i64_w, i32_w]
    rfl
  refine one_ (i := 4) (N := some 44) #[true, true, true, true, true, false, false, false] rfl rfl (by kernel_rfl) (by decide) (fun K hK => ?_)
  refine goes_ Try.func103 (by kernel_rfl) rfl #[.agg #[.int .u64 c.f0, .int .u64 c.f1, .int .u64 c.f2, .int .u64 c.f3, .int .u64 c.f4, .slice A1 c.f5.length c1, .bool c.f6]] (by rfl) rfl rfl (by (try simp only [List.map_toArray, List.map_cons, List.map_nil]); (rfl)) ?_
  refine (ledger_own.calls c.f0 c.f1 c.f2 c.f3 c.f4 A1 c1 c.f5 c.f6 c.f0 c.f1 c.f2 c.f3 c.f4 c.f5 c.f6 _ (Kd.C_below HR1.out HB.out) HC1.out (own_eq c HL0.out)).mono ?_
  rintro e w7 ⟨v5, rfl, ho, hb⟩
  refine ⟨_, rfl, ?_⟩
  obtain ⟨An, cn, hv⟩ := Kd.R_slice ho
  subst hv
  have HCH : Aside0 (Ch w7 w.heap.size c [.int .u64 c.f0, .int .u64 c.f1, .int .u64 c.f2, .int .u64 c.f3, .int .u64 c.f4, .slice An c.f5.length cn, .bool c.f6]) := ⟨⟨An, cn, rfl, (Kd.R_reads' ho).2.1, (Kd.R_reads' ho).2.2, row44_of_R ho HB.out.size⟩⟩
  replace HB := aM_ (below_then HB.out HB.out.size hb)
  replace HK := aM_ (blk_below HK.out hb)
  replace HR := aM_ (Kd.R_below HR.out hb)
  replace HRX := aM_ (HRX.out.below hb)
  clear ho hb
  refine hK.out _ _ ⟨(blk_cell HK.out 0).trans rfl, (blk_cell HK.out 1).trans rfl, (blk_cell HK.out 2).trans rfl, (blk_cell HK.out 3).trans rfl, (blk_cell HK.out 4).trans rfl, (blk_cell HK.out 5).trans rfl, (blk_cell HK.out 6).trans rfl⟩ (fun hHeld => ?_)
  clear hK K
  refine norm_ (a' := ?_) ?_ ?_
  rotate_left
  · show Act.put _ (some 44) _ = _
    simp only [Act.put, List.setIfInBounds_toArray, List.set_cons_zero, List.set_cons_succ, i64_w, i32_w]
    rfl
  refine one_ (i := 5) (N := some 45) #[true, true, true, true, true, true, false, false] rfl rfl (by kernel_rfl) (by decide) (fun K hK => ?_)
  refine event_step (w1 := w7.alloc (.cells #[.int .u64 c.f0, .int .u64 c.f1, .int .u64 c.f2, .int .u64 c.f3, .int .u64 c.f4, .slice An c.f5.length cn, .bool c.f6] 25)) (v := .slice (some ⟨w7.heap.size, 0, none⟩) 1 1) (by rfl) (by ((go_simp; done))) ?_
  have hal := (Below.refl w7.heap.size w7).alloc (Nat.le_refl _) (.cells #[.int .u64 c.f0, .int .u64 c.f1, .int .u64 c.f2, .int .u64 c.f3, .int .u64 c.f4, .slice An c.f5.length cn, .bool c.f6] 25)
  have HN := aM_ (one_raw w7 w.heap.size [.int .u64 c.f0, .int .u64 c.f1, .int .u64 c.f2, .int .u64 c.f3, .int .u64 c.f4, .slice An c.f5.length cn, .bool c.f6] rfl (by intro u hu; simp at hu; rcases hu with rfl | rfl | rfl | rfl | rfl | rfl | rfl <;> rfl) HB.out.size)
  have HN2 := aM_ (blk_new w7 (.cells #[.int .u64 c.f0, .int .u64 c.f1, .int .u64 c.f2, .int .u64 c.f3, .int .u64 c.f4, .slice An c.f5.length cn, .bool c.f6] 25))
  have HLT := aM_ (Kd.R_lt HR.out)
  have HKL : Aside0 (w.heap.size < w7.heap.size) := ⟨blk_lt HK.out⟩
  replace HB := aM_ (below_then HB.out HB.out.size hal)
  replace HK := aM_ (blk_below HK.out hal)
  replace HR := aM_ (Kd.R_below HR.out hal)
  replace HRX := aM_ (HRX.out.below hal)
  replace HCH := aM_ (HCH.out.below hal)
  clear hal
  generalize w7.alloc (.cells #[.int .u64 c.f0, .int .u64 c.f1, .int .u64 c.f2, .int .u64 c.f3, .int .u64 c.f4, .slice An c.f5.length cn, .bool c.f6] 25) = w8 at HN HN2 HB HK HR HRX HCH ⊢
  refine hK.out _ _ ⟨(blk_cell HK.out 0).trans rfl, (blk_cell HK.out 1).trans rfl, (blk_cell HK.out 2).trans rfl, (blk_cell HK.out 3).trans rfl, (blk_cell HK.out 4).trans rfl, (blk_cell HK.out 5).trans rfl, (blk_cell HK.out 6).trans rfl⟩ (fun hHeld => ?_)
  clear hK K
  refine norm_ (a' := ?_) ?_ ?_
  rotate_left
  · show Act.put _ (some 45) _ = _
    simp only [Act.put, List.setIfInBounds_toArray, List.set_cons_zero, List.set_cons_succ, i64_w, i32_w]
    rfl
  refine one_ (i := 6) (N := some 46) #[true, true, true, true, true, true, true, false] rfl rfl (by kernel_rfl) (by decide) (fun K hK => ?_)
  refine goes_ Try.func101 (by kernel_rfl) rfl #[v, .int .i64 i, .slice (some ⟨w7.heap.size, 0, none⟩) 1 1] (by rfl) rfl rfl (by (try simp only [List.map_toArray, List.map_cons, List.map_nil]); (rfl)) ?_
  refine (slices_Insert_Channel_raw.calls (fun k_ => v.ownBlock = some k_) v rows (i : Int) (fun k_ => k_ = w7.heap.size) (.slice (some ⟨w7.heap.size, 0, none⟩) 1 1) [[.int .u64 c.f0, .int .u64 c.f1, .int .u64 c.f2, .int .u64 c.f3, .int .u64 c.f4, .slice An c.f5.length cn, .bool c.f6]] (rows.take i ++ [[.int .u64 c.f0, .int .u64 c.f1, .int .u64 c.f2, .int .u64 c.f3, .int .u64 c.f4, .slice An c.f5.length cn, .bool c.f6]] ++ rows.drop i) w _ HB.out (raw_ok HR.out) (fun k_ h1 h2 => by have := HLT.out k_ h1; omega) HN.out (fun k_ h1 h2 => by have := HLT.out k_ h2; omega) (by unfold slices_Insert_Channel_raw.f; rw [if_pos ⟨by omega, by have := HI.out; have := HRL.out; omega, rfl, by have := HML.out; have := HRL.out; omega⟩, Int.toNat_natCast])).mono ?_
  rintro e w9 ⟨v0, rfl, ho, hb, hk⟩
  refine ⟨_, rfl, ?_⟩
  have HOW : Aside0 (Own25 w9 w.heap.size v0 q) := ⟨by rw [HQ.out]; exact own25_ins HRL.out HRX.out HCH.out HI.out ho hk (fun k_ hk_ => by rcases hk_ with h | h; exact Kd.R_typed HR.out k_ h; subst h; exact ⟨_, HN2.out⟩)⟩
  obtain ⟨Av, cv, hv0, hcv, hCv⟩ := HOW.out.reads
  subst hv0
  replace HK : Aside0 (w9.heap[w.heap.size]? = some (.cells #[.int .u64 c.f0, .int .u64 c.f1, .int .u64 c.f2, .int .u64 c.f3, .int .u64 c.f4, .slice A1 c.f5.length c1, .bool c.f6] 25 (0, 0))) := ⟨(hk.2 _ (blk_lt HK.out) (fun hS => by rcases hS with h | h; have := HVB.out _ h; omega; have := HKL.out; omega)).trans HK.out⟩
  replace HB := aM_ hb
  have HCV := aM_ hCv
  have HCL := aM_ hcv
  clear ho hb hk hCv hcv HR HRX HCH HN HN2
  refine hK.out _ _ ⟨(blk_cell HK.out 0).trans rfl, (blk_cell HK.out 1).trans rfl, (blk_cell HK.out 2).trans rfl, (blk_cell HK.out 3).trans rfl, (blk_cell HK.out 4).trans rfl, (blk_cell HK.out 5).trans rfl, (blk_cell HK.out 6).trans rfl⟩ (fun hHeld => ?_)
  clear hK K
  refine norm_ (a' := ?_) ?_ ?_
  rotate_left
  · show Act.put _ (some 46) _ = _
    simp only [Act.put, List.setIfInBounds_toArray, List.set_cons_zero, List.set_cons_succ, i64_w, i32_w]
    rfl
  refine pure_ (i := 7) (N := some 0) (v := ?_) (a' := ?_) #[true, true, true, true, true, true, true, true] rfl rfl (by kernel_rfl) (fun _ _ _ h => h) (Or.inl ⟨by rfl, ?_⟩) ?_ ?_
  rotate_left
  · intro w'
    go_simp
    with_reducible rfl
  rotate_left
  · simp only [Act.put, List.setIfInBounds_toArray, List.set_cons_zero, List.set_cons_succ, i64_w, i32_w]
    rfl
  refine done_ (by kernel_rfl) ?_
  by_cases he3 : e3 = 0
  · subst he3
    rw [if_pos rfl] at h
    injection h with h
    injection h with hh1 hh2
    subst hh1 hh2
    go_wp2_with (go_at_call 54; refine (ledger_Check.calls k Av cv q 0 _ HCV.out HCL.out HF5.out).mono ?_; rintro e w10 ⟨rfl, hb⟩; clear HF5; replace HB := aM_ (below_then HB.out HB.out.size hb); replace HOW := aM_ (HOW.out.below hb); clear hb)
    go_ret2
    exact ⟨_, rfl, HOW.out, HB.out⟩
  · rw [if_neg he3] at h
    injection h with h
    injection h with hh1 hh2
    subst hh1 hh2
    have he3b : (e3 != 0) = true := bne_iff_ne.mpr he3
    clear he3
    go_wp2_with (go_at_call 54; refine (ledger_Check.calls k Av cv q e3 _ HCV.out HCL.out HF5.out).mono ?_; rintro e w10 ⟨rfl, hb⟩; clear HF5; replace HB := aM_ (below_then HB.out HB.out.size hb); replace HOW := aM_ (HOW.out.below hb); clear hb)
    go_ret2
    exact ⟨_, rfl, Own25.nil _ _, HB.out⟩

-- NOT PRINTED: function 85 (slices_BinarySearchFunc_uint64_85)

/-! ### slices_Insert_Hold: function 88 (by hand) -/
theorem slices_Insert_Hold.apart_ (g2 cap2 : Nat) (cur2 : Array Value) (w : World) (hg2 : w.heap[g2]? = some (.cells cur2 44 (0, 0))) (b o lb cb : Nat) (cur : Array Value) (hb : w.heap[b]? = some (.cells cur 44 (0, 0))) (hne : g2 ≠ b) (h0 : cur.size ≠ 0) :
    (callFunc 131 #[.slice (some ⟨g2, 0, none⟩) 1 cap2, .slice (some ⟨b, o, none⟩) lb cb]).run Try.prog w = .ok (.value (.bool false)) w := by
  rw [run_callFunc_extern Try.func131 (by kernel_rfl) (by kernel_rfl) (by kernel_rfl) (e := Extern.SlicesOverlaps.overlaps #[23, 23] #[4]) (by kernel_rfl),
    Lib.run_overlaps_apart w 23 4 44 Try.underlying23 2 Try.sizeOf44 ⟨g2, 0, none⟩ ⟨b, o, none⟩ 1 cap2 lb cb hne 44 44 cur2.size cur.size (by simp [World.shape?, hg2]) (by simp [World.shape?, hb]) h0 (blk_frozen hg2 0) (blk_frozen hg2 _)]
  rfl
set_option maxHeartbeats 4000000 in
set_option maxRecDepth 100000 in
theorem slices_Insert_Hold.shift (g n cap i g2 cap2 : Nat) (cur cur2 : Array Value) (w : World) (hi : i < n) (hroom : n + 1 ≤ cap) (hcap : cap ≤ 9223372036854775807) (hg : w.heap[g]? = some (.cells cur 44 (0, 0))) (hg2 : w.heap[g2]? = some (.cells cur2 44 (0, 0))) (hne : g2 ≠ g)
    (hcur : cur.size = cap * 2) (hcur2 : 2 ≤ cur2.size) (h1 : ∀ u ∈ cur.toList.take (n * 2), u.oneCell' = true) (h2 : ∀ u ∈ cur2.toList.take 2, u.oneCell' = true) :
    Calls Try.prog 88 #[.slice (some ⟨g, 0, none⟩) n cap, .int .i64 i, .slice (some ⟨g2, 0, none⟩) 1 cap2] w fun e w' => ∃ cur', e = .returned (.slice (some ⟨g, 0, none⟩) (n + 1) cap) ∧ w'.heap[g]? = some (.cells cur' 44 (0, 0)) ∧ w.grownBy w' (some g) ∧ cur'.size = cap * 2 ∧
      cur'.toList.take ((n + 1) * 2) = (cur.toList.take (n * 2)).take (i * 2) ++ cur2.toList.take 2 ++ (cur.toList.take (n * 2)).drop (i * 2) := by
  obtain ⟨cs, hcs⟩ : ∃ cs, cs = (cur.toList.drop (i * 2)).take ((n - i) * 2) := ⟨_, rfl⟩
  obtain ⟨vs, hvs⟩ : ∃ vs, vs = cur2.toList.take 2 := ⟨_, rfl⟩
  have hov : ∀ o lb cb, (callFunc 131 #[.slice (some ⟨g2, 0, none⟩) 1 cap2, .slice (some ⟨g, o, none⟩) lb cb]).run Try.prog w = .ok (.value (.bool false)) w := fun o lb cb => slices_Insert_Hold.apart_ g2 cap2 cur2 w hg2 g o lb cb cur hg hne (by omega)
  have hz2 : ¬ ((i : Int) = (n : Int)) := by omega
  have hb1 : (0 : Int) ≤ (i : Int) := by omega
  have hb3 : (i : Int) ≤ (n : Int) := by omega
  have hb4 : ¬ (cap = i) := by omega
  have hb5 : ¬ (cap = i + 1) := by omega
  have hw1 : IntKind.i64.wrap ((i : Int) + 1) = (i : Int) + 1 := by rw [IntKind.wrap_i64]; omega
  have hb6 : (0 : Int) ≤ (i : Int) + 1 := by omega
  have hb7 : (i : Int) + 1 ≤ (n : Int) + 1 := by omega
  have hb8 : ((i : Int) + 1).toNat = i + 1 := by omega
  have hb9 : (i : Int) ≤ (n : Int) + 1 := by omega
  have hb10 : n + 1 - (i + 1) = n - i := by omega
  have hsz : (Try.prog.info? 44).map (·.size) = some 2 := by kernel_rfl
  have hcl : cs.length = (n - i) * 2 := by rw [hcs, List.length_take, List.length_drop, Array.length_toList]; omega
  have hvl : vs.length = 1 * 2 := by rw [hvs, List.length_take, Array.length_toList]; omega
  obtain ⟨cur1, hcur1⟩ : ∃ cur1, cur1 = (cur.toList.take ((i + 1) * 2) ++ cs ++ cur.toList.drop ((i + 1) * 2 + cs.length)).toArray := ⟨_, rfl⟩
  have hcp1 : ∀ ty, (Builtin.copy_ #[23, 23] ty #[.slice (some ⟨g, (i + 1) * 2, none⟩) (n - i) (cap - (i + 1)), .slice (some ⟨g, i * 2, none⟩) (n + 1 - i) (cap - i)]).run Try.prog w.drew = .ok (goInt ((n - i : Nat) : Int)) (w.drew.setRow g cur1) := fun ty => by
    rw [hcur1]
    exact run_copy_rowK w.drew 23 23 ty 44 g ((i + 1) * 2) (n - i) (cap - (i + 1)) ⟨g, i * 2, none⟩ (n + 1 - i) (cap - i) 2 (n - i) cur 44 cs Try.underlying23 hsz hg (by simp only [Nat.min_def]; split <;> omega) hcl
      (blk_cells hg (i * 2) ((n - i) * 2) cs hcs.symm) (by omega) (fun v hv => h1 v (by
        rw [hcs] at hv
        rw [List.take_drop, show i * 2 + (n - i) * 2 = n * 2 by omega] at hv
        exact List.mem_of_mem_drop hv))
  obtain ⟨W1, hW1⟩ : ∃ W1, W1 = w.drew.setRow g cur1 := ⟨_, rfl⟩
  have hW1g : W1.heap[g]? = some (.cells cur1 44 (0, 0)) := by rw [hW1]; exact setRow_heap w.drew g cur _ 44 _ hg
  have hW1g2 : W1.heap[g2]? = some (.cells cur2 44 (0, 0)) := by rw [hW1, setRow_other w.drew g g2 _ hne]; exact hg2
  have hc1s : cur1.size = cap * 2 := by rw [hcur1]; simp only [List.size_toArray, List.length_append, List.length_take, List.length_drop, Array.length_toList]; omega
  obtain ⟨cur', hcur'⟩ : ∃ cur', cur' = (cur1.toList.take (i * 2) ++ vs ++ cur1.toList.drop (i * 2 + vs.length)).toArray := ⟨_, rfl⟩
  have hcp2 : ∀ ty, (Builtin.copy_ #[23, 23] ty #[.slice (some ⟨g, i * 2, none⟩) (n + 1 - i) (cap - i), .slice (some ⟨g2, 0, none⟩) 1 cap2]).run Try.prog W1 = .ok (goInt 1) (W1.setRow g cur') := fun ty => by
    rw [hcur']
    exact run_copy_rowK W1 23 23 ty 44 g (i * 2) (n + 1 - i) (cap - i) ⟨g2, 0, none⟩ 1 cap2 2 1 cur1 44 vs Try.underlying23 hsz hW1g (by simp only [Nat.min_def]; split <;> omega) hvl
      (blk_cells hW1g2 0 2 vs (by rw [hvs, List.drop_zero])) (by omega) (fun v hv => h2 v (by rw [hvs] at hv; exact hv))
  have fin : cur'.size = cap * 2 ∧ cur'.toList.take ((n + 1) * 2) = (cur.toList.take (n * 2)).take (i * 2) ++ cur2.toList.take 2 ++ (cur.toList.take (n * 2)).drop (i * 2) := by
    have hL : cur.toList.length = cap * 2 := by rw [Array.length_toList, hcur]
    have h := ins_cells cur.toList vs (i * 2) ((n - i) * 2) 2 0 (by omega) (by omega)
    simp only at h
    have ec : (i + 1) * 2 = i * 2 + 2 := by omega
    rw [hcur', hcur1, hcl, ec, hvl, Nat.one_mul]
    rw [hcs, hvs]
    rw [hvs] at h
    have en : i * 2 + (n - i) * 2 = n * 2 := by omega
    rw [en] at h
    rw [show (n + 1) * 2 = n * 2 + 2 by omega]
    exact ⟨h.1.trans hL, h.2⟩
  have fin2 : w.grownBy (W1.setRow g cur') (some g) := by
    rw [hW1]
    exact grown_trans (grown_trans (show w.grownBy w.drew (some g) from ⟨rfl, rfl, rfl, Nat.le_refl _, fun _ _ _ => rfl⟩) (grown_setRow w.drew g cur1)) (grown_setRow _ g cur')
  have fin3 : (W1.setRow g cur').heap[g]? = some (.cells cur' 44 (0, 0)) := setRow_heap W1 g cur1 _ 44 _ hW1g
  rw [← hW1] at hcp1
  clear hW1 hcur1 hcur' hcs hvs h1 h2 hcur hcur2 hg hg2
  go_enter Try.func88, Try.ntmps88
  go_wp2_with (simp only [hov])
  go_region_law (refine step_copy_run rfl _ _ 23 23 rfl _ _ (by simp [Act.eval, Act.put]) (by simp [Act.eval, Act.put]) (hcp1 _) ?_)
  go_wp2_with (at_builtin; refine wpList_copy_run _ rfl _ _ 23 23 rfl _ _ rfl rfl (hcp2 _) ?_)

  go_ret
  exact ⟨cur', rfl, fin3, fin2, fin⟩

set_option maxHeartbeats 4000000 in
set_option maxRecDepth 100000 in
theorem slices_Insert_Hold.grow (g n cap i g2 cap2 : Nat) (cur cur2 : Array Value) (w : World) (hi : i < n) (hnc : n ≤ cap) (hroom : cap < n + 1) (hbig : (n + 1) * 16 ≤ 140737488355328) (hg : w.heap[g]? = some (.cells cur 44 (0, 0))) (hg2 : w.heap[g2]? = some (.cells cur2 44 (0, 0)))
    (hcur : cur.size = cap * 2) (hcur2 : 2 ≤ cur2.size) (h1 : ∀ u ∈ cur.toList.take (n * 2), u.oneCell' = true) (h2 : ∀ u ∈ cur2.toList.take 2, u.oneCell' = true) :
    Calls Try.prog 88 #[.slice (some ⟨g, 0, none⟩) n cap, .int .i64 i, .slice (some ⟨g2, 0, none⟩) 1 cap2] w fun e w' => ∃ cur' G, e = .returned (.slice (some ⟨w.heap.size, 0, none⟩) (n + 1) G) ∧ w'.heap[w.heap.size]? = some (.cells cur' 44 (0, 0)) ∧ w.grownBy w' none ∧ n + 1 ≤ G ∧ G ≤ maxLen ∧ cur'.size = G * 2 ∧
      cur'.toList.take ((n + 1) * 2) = (cur.toList.take (n * 2)).take (i * 2) ++ cur2.toList.take 2 ++ (cur.toList.take (n * 2)).drop (i * 2) := by
  obtain ⟨i0, hi0, hz0, hzs, hzb⟩ := info_parts info44
  have hlg : g < w.heap.size := blk_lt hg
  have hlg2 : g2 < w.heap.size := blk_lt hg2
  obtain ⟨inn, hinn⟩ : ∃ inn, inn = cur.toList.take (n * 2) := ⟨_, rfl⟩
  have hinl : inn.length = n * 2 := by rw [hinn, List.length_take, Array.length_toList]; omega
  have hold : (Builtin.firstCells i0.size i (.slice (some ⟨g, 0, none⟩) i cap)).run Try.prog w.drew = .ok (inn.take (i * 2)).toArray w.drew := by
    rw [hzs]
    exact run_firstCells_some w.drew 2 i ⟨g, 0, none⟩ i cap (inn.take (i * 2)) (by rw [List.length_take]; omega) (blk_cells (w := w.drew) hg 0 (i * 2) _ (by rw [hinn, List.drop_zero, List.take_take, Nat.min_eq_left (by omega)]))
  obtain ⟨G, hG⟩ : ∃ G, G = grownCap w (n + 1) cap 44 := ⟨_, rfl⟩
  have hGn : n + 1 ≤ G := by rw [hG]; exact grownCap_ge w _ _ _
  have hGm : G ≤ maxLen := by rw [hG]; exact grownCap_le_maxLen w (n + 1) cap 44 (by unfold maxLen; omega)
  have hG63 : G ≤ 9223372036854775807 := by unfold maxLen at hGm; omega
  obtain ⟨ROW, hROW⟩ : ∃ ROW : Array Value, ROW = (inn.take (i * 2)).toArray ++ Builtin.zeroCells ((.agg #[(.int .u64 0), (.int .u64 0)]) : Value).cells (n + 1 - i) ++ Builtin.zeroCells ((.agg #[(.int .u64 0), (.int .u64 0)]) : Value).cells (G - (n + 1)) := ⟨_, rfl⟩
  have hRs : ROW.size = G * 2 := by
    rw [hROW]
    simp only [Array.size_append, List.size_toArray, List.length_take, hinl, size_zeroCells, show ((.agg #[(.int .u64 0), (.int .u64 0)]) : Value).cells.size = 2 from rfl]
    omega
  have hRt : ROW.toList.take (i * 2) = inn.take (i * 2) := by
    rw [hROW, Array.toList_append, Array.toList_append, List.append_assoc, List.take_append_of_le_length (by simp only [List.length_take, hinl]; omega), List.take_of_length_le (by simp only [List.length_take, hinl]; omega)]
  have hrz : ∀ ty, (Builtin.append_ #[23, 3] ty #[.slice (some ⟨g, 0, none⟩) i cap, .int .i64 ((n : Int) + 1 - (i : Int))]).run Try.prog w =
      .ok (.slice (some ⟨w.heap.size, 0, none⟩) (n + 1) G) (w.drew.alloc (.cells ROW 44)) := fun ty => by
    have h := Lib.run_append_grow_zeros w 23 3 ty 44 i0 _ .i64 .i64 Try.underlying23 Try.underlying3 hi0 hz0 (some ⟨g, 0, none⟩) i cap (inn.take (i * 2)) hold (n + 1 - i) (by omega) (by omega) (by omega) (by omega) (by rw [hzb]; omega) (by rw [hzb, show i + (n + 1 - i) = n + 1 by omega]; exact growslice_fits hroom hbig)
    rw [show i + (n + 1 - i) = n + 1 by omega, ← hG, ← hROW] at h
    rw [show (n : Int) + 1 - (i : Int) = ((n + 1 - i : Nat) : Int) by omega]
    exact h
  have hsz : (Try.prog.info? 44).map (·.size) = some 2 := by kernel_rfl
  obtain ⟨N, hN⟩ : ∃ N, N = w.heap.size := ⟨_, rfl⟩
  obtain ⟨vs, hvs⟩ : ∃ vs, vs = cur2.toList.take 2 := ⟨_, rfl⟩
  have hvl : vs.length = 1 * 2 := by rw [hvs, List.length_take, Array.length_toList]; omega
  obtain ⟨cs, hcs⟩ : ∃ cs, cs = inn.drop (i * 2) := ⟨_, rfl⟩
  have hcl : cs.length = (n - i) * 2 := by rw [hcs, List.length_drop]; omega
  obtain ⟨cur1, hcur1⟩ : ∃ cur1, cur1 = (ROW.toList.take (i * 2) ++ vs ++ ROW.toList.drop (i * 2 + vs.length)).toArray := ⟨_, rfl⟩
  have hc1s : cur1.size = G * 2 := by rw [hcur1]; simp only [List.size_toArray, List.length_append, List.length_take, List.length_drop, Array.length_toList]; omega
  obtain ⟨cur', hcur'⟩ : ∃ cur', cur' = (cur1.toList.take ((i + 1) * 2) ++ cs ++ cur1.toList.drop ((i + 1) * 2 + cs.length)).toArray := ⟨_, rfl⟩
  have hcpA : ∀ (W : World), W.heap[N]? = some (.cells ROW 44 (0, 0)) → W.heap[g2]? = some (.cells cur2 44 (0, 0)) → ∀ ty, (Builtin.copy_ #[23, 23] ty #[.slice (some ⟨N, i * 2, none⟩) (n + 1 - i) (G - i), .slice (some ⟨g2, 0, none⟩) 1 cap2]).run Try.prog W = .ok (goInt 1) (W.setRow N cur1) := fun W hW hWv ty => by
    rw [hcur1]
    exact run_copy_rowK W 23 23 ty 44 N (i * 2) (n + 1 - i) (G - i) ⟨g2, 0, none⟩ 1 cap2 2 1 ROW 44 vs Try.underlying23 hsz hW (by simp only [Nat.min_def]; split <;> omega) hvl
      (blk_cells hWv 0 2 vs (by rw [hvs, List.drop_zero])) (by omega) (fun v hv => h2 v (by rw [hvs] at hv; exact hv))
  have hcpB : ∀ (W : World), W.heap[N]? = some (.cells cur1 44 (0, 0)) → W.heap[g]? = some (.cells cur 44 (0, 0)) → ∀ ty, (Builtin.copy_ #[23, 23] ty #[.slice (some ⟨N, (i + 1) * 2, none⟩) (n - i) (G - (i + 1)), .slice (some ⟨g, i * 2, none⟩) (n - i) (cap - i)]).run Try.prog W = .ok (goInt ((n - i : Nat) : Int)) (W.setRow N cur') := fun W hW hWv ty => by
    rw [hcur']
    exact run_copy_rowK W 23 23 ty 44 N ((i + 1) * 2) (n - i) (G - (i + 1)) ⟨g, i * 2, none⟩ (n - i) (cap - i) 2 (n - i) cur1 44 cs Try.underlying23 hsz hW (by simp only [Nat.min_def]; split <;> omega) hcl
      (blk_cells hWv (i * 2) ((n - i) * 2) cs (by rw [hcs, hinn, List.drop_take]; congr 1; omega)) (by omega) (fun v hv => h1 v (by rw [hcs, hinn] at hv; exact List.mem_of_mem_drop hv))
  have fin : cur'.size = G * 2 ∧ cur'.toList.take ((n + 1) * 2) = inn.take (i * 2) ++ cur2.toList.take 2 ++ inn.drop (i * 2) := by
    have e1 : cur1.toList.take ((i + 1) * 2) = inn.take (i * 2) ++ vs := by
      rw [hcur1]
      show List.take _ (List.take (i * 2) ROW.toList ++ vs ++ _) = _
      rw [hRt, List.take_append_of_le_length (by simp only [List.length_append, List.length_take, hinl]; omega), List.take_of_length_le (by simp only [List.length_append, List.length_take, hinl]; omega)]
    refine ⟨?_, ?_⟩
    · rw [hcur']; simp only [List.size_toArray, List.length_append, List.length_take, List.length_drop, Array.length_toList]; omega
    · rw [hcur', e1]
      show List.take _ (inn.take (i * 2) ++ vs ++ cs ++ _) = _
      rw [List.take_append_of_le_length (by simp only [List.length_append, List.length_take, hinl]; omega), List.take_of_length_le (by simp only [List.length_append, List.length_take, hinl]; omega), hcs, hvs]
  rw [← hN] at hlg hlg2 hrz ⊢
  rw [← hinn]
  have hz2 : ¬ ((i : Int) = (n : Int)) := by omega
  have hz3 : (cap : Int) < (n : Int) + 1 := by omega
  have hb1 : (0 : Int) ≤ (i : Int) := by omega
  have hb3 : (i : Int) ≤ (n : Int) := by omega
  have hb4 : ¬ (cap = i) := by omega
  have hb5 : ¬ (G = i) := by omega
  have hb6 : ¬ (G = i + 1) := by omega
  have hw1 : IntKind.i64.wrap ((i : Int) + 1) = (i : Int) + 1 := by rw [IntKind.wrap_i64]; omega
  have hb7 : (0 : Int) ≤ (i : Int) + 1 := by omega
  have hb8 : (i : Int) + 1 ≤ (n : Int) + 1 := by omega
  have hb9 : ((i : Int) + 1).toNat = i + 1 := by omega
  have hb10 : (i : Int) ≤ (n : Int) + 1 := by omega
  have hb11 : n + 1 - (i + 1) = n - i := by omega
  obtain ⟨W1, hW1⟩ : ∃ W1, W1 = w.drew.alloc (.cells ROW 44) := ⟨_, rfl⟩
  have hn1 : W1.heap[N]? = some (.cells ROW 44 (0, 0)) := by rw [hW1, hN]; exact heap_alloc_new w.drew _
  have hg1 : W1.heap[g]? = some (.cells cur 44 (0, 0)) := by rw [hW1]; exact blk_alloc (w := w.drew) hg _
  have hg21 : W1.heap[g2]? = some (.cells cur2 44 (0, 0)) := by rw [hW1]; exact blk_alloc (w := w.drew) hg2 _
  have hgr1 : w.grownBy W1 none := by rw [hW1]; exact ⟨rfl, rfl, rfl, by simp, fun k hk _ => heap_alloc_old w.drew _ hk⟩
  have hsN : w.heap.size ≤ N := by omega
  rw [← hW1] at hrz
  have hA := hcpA W1 hn1 hg21
  obtain ⟨W2, hW2⟩ : ∃ W2, W2 = W1.setRow N cur1 := ⟨_, rfl⟩
  have hn2 : W2.heap[N]? = some (.cells cur1 44 (0, 0)) := by rw [hW2]; exact setRow_heap W1 N ROW _ 44 _ hn1
  have hgg2 : W2.heap[g]? = some (.cells cur 44 (0, 0)) := by rw [hW2, setRow_other W1 N g _ (by omega)]; exact hg1
  have hgr2 : w.grownBy W2 none := by
    rw [hW2]
    exact ⟨hgr1.os, hgr1.tape, hgr1.output, Nat.le_trans hgr1.size (by simp [World.setRow]), fun k hk hr => (setRow_other W1 N k _ (by omega)).trans (hgr1.block k hk hr)⟩
  rw [← hW2] at hA
  have hB := hcpB W2.drew hn2 hgg2
  have fin3 : (W2.drew.setRow N cur').heap[N]? = some (.cells cur' 44 (0, 0)) := setRow_heap W2.drew N cur1 _ 44 _ hn2
  have fin2 : w.grownBy (W2.drew.setRow N cur') none := ⟨hgr2.os, hgr2.tape, hgr2.output, Nat.le_trans hgr2.size (by simp [World.setRow]), fun k hk hr => (setRow_other W2.drew N k _ (by omega)).trans (hgr2.block k hk hr)⟩
  clear hcpA hcpB hW1 hW2 hcur1 hcur' hcs hvs h1 h2 hcur hcur2 hg hg2 hROW hG hold hinn hN hn1 hg1 hg21 hgr1 hn2 hgg2 hgr2 hRt hRs
  go_enter Try.func88, Try.ntmps88
  go_wp2_with (first
    | (at_builtin; refine Lib.wpList_append_run _ rfl _ _ _ _ rfl _ _ rfl rfl _ _ (hrz _) ?_)
    | (at_builtin; refine wpList_copy_run _ rfl _ _ 23 23 rfl _ _ rfl rfl (hA _) ?_))
  go_region_law (refine step_copy_run rfl _ _ 23 23 rfl _ _ (by simp [Act.eval, Act.put]) (by simp [Act.eval, Act.put]) (hB _) ?_)
  go_wp2
  go_ret
  exact ⟨cur', G, rfl, fin3, fin2, hGn, hGm, fin⟩

def slices_Insert_Hold.f (l0 : List (S44)) (a1 : Int) (l2 : List (S44)) : Option (List (S44)) := if 0 ≤ a1 ∧ a1 ≤ (l0.length : Int) ∧ l2.length = 1 ∧ l0.length + 1 < 8796093022208 then (some (l0.take a1.toNat ++ l2 ++ l0.drop a1.toNat)) else (none)
set_option maxHeartbeats 8000000 in
set_option maxRecDepth 100000 in
theorem slices_Insert_Hold.last (P0_ : Nat → Prop) (u9000_ : Value) (l0 : List (S44)) (a1 : Int) (P2_ : Nat → Prop) (u9001_ : Value) (l2 : List (S44)) (w0 w : World) (hB : Below w0.heap.size w0 w) (ho0 : Kd.R k44 44 w w0.heap.size P0_ u9000_ l0) (ho2 : Kd.R k44 44 w w0.heap.size P2_ u9001_ l2) (h1 : a1 = (l0.length : Int)) (h2 : l2.length = 1) (h3 : l0.length + 1 < 8796093022208) :
    Calls Try.prog 88 #[u9000_, .int .i64 a1, u9001_] w fun e w' => ∃ v0_ : Value, e = .returned (v0_) ∧ Kd.R k44 44 w' w0.heap.size (fun k_ => ((P0_ k_ ∨ P2_ k_) ∨ w.heap.size ≤ k_)) v0_ (l0 ++ l2) ∧ Below w0.heap.size w0 w' ∧ Kept w w' (fun k_ => P0_ k_ ∨ P2_ k_) := by
  have HO0 := aM_ (show Kd.R k44 44 w w0.heap.size (fun k_ => P0_ k_ ∨ w.heap.size ≤ k_) u9000_ l0 from Kd.R_mono ho0 (fun k_ hk => .inl hk))
  have HP := aM_ ho0.1
  obtain ⟨Av, cv, ev⟩ := Kd.R_slice ho2
  subst ev
  have HR2 := aM_ (Kd.R_reads' ho2).2.2
  have HB := aM_ hB
  have HS := aM_ hB.size
  have LM := aM_ (show l0.length + l2.length < 8796093022208 by omega)
  obtain ⟨Ao12, co12, eo12⟩ := Kd.R_slice HO0.out
  subst eo12
  have q11 : (a1 : Int) ≤ ((l0.length : Int) : Int) := by omega
  obtain ⟨i011, hi011, _, hsz11, _⟩ := info_parts info44
  have hroom11 : l0.length ≤ co12 := (Kd.R_reads' HO0.out).2.1
  have q011 : (0 : Int) ≤ (a1 : Int) := by omega
  have hcut11 := cut_from (P := Try.prog) 23 44 .i64 Try.underlying23 hi011 2 hsz11 Ao12 l0.length co12 a1 q011 q11
  obtain ⟨A11, hA11⟩ : ∃ A1, A1 = (if co12 = (a1 : Int).toNat then Ao12 else (Ao12 : Option Addr).map (·.add ((a1 : Int).toNat * 2))) := ⟨_, rfl⟩
  obtain ⟨c11, hc11⟩ : ∃ c1, c1 = co12 - (a1 : Int).toNat := ⟨_, rfl⟩
  obtain ⟨y11, hy11⟩ : ∃ y1, y1 = l0.length - (a1 : Int).toNat := ⟨_, rfl⟩
  rw [← hy11, ← hA11, ← hc11] at hcut11
  have c6b0 : ((l2.length : Int) == 0) = false := by rw [h2]; rfl
  have c6b1 : ((l2.length : Int) != 0) = true := by rw [h2]; rfl
  have c6b2 : ¬ (l2 = []) := fun h_ => by rw [h_] at h2; cases h2
  have c9b0 : (a1 == (l0.length : Int)) = true := beq_iff_eq.mpr h1
  have c9b1 : (a1 != (l0.length : Int)) = false := bne_eq_false_iff_eq.mpr h1
  clear hi011 hsz11 hc11 hA11 hy11 h1 h2 h3 ho0 ho2 hB
  replace q11 := eq_true q11
  replace q011 := eq_true q011
  go_enter Try.func88, Try.ntmps88
  go_wp2_with ((((with_reducible refine gate_builtin (b := .append) (xs := #[.tmp 23, .tmp 24]) rfl ?_); at_builtin; refine Kd.R_append_rows k44 (w0 := w0) w0.heap.size rfl (.tmp 23) (.tmp 24) 23 44 (.agg #[(.int .u64 0), (.int .u64 0)]) 16 rfl Try.underlying23 info44 rfl (by decide) (by omega) (.slice Ao12 l0.length co12) l0 l2 _ _ _ (fun k_ => (P0_ k_ ∨ w.heap.size ≤ k_)) (fun _ => False) rfl rfl ?aO ?aR (fun _ _ h => h) (fun _ h => h.elim) ?aF ?aB ?aS ?aL ?_; (case aR => exact HR2.out); (case aB => exact HB.out); (case aF => exact (fun k_ hk => .inr hk)); (case aO => exact HO0.out); (case aS => exact HS.out); (case aL => have := LM.out; omega); intro v138 w13 ho hb hg hat; have n0_ := aM_ ho; have n1_ := aM_ hb; have n2_ := aM_ hg; clear ho hb hg hat)))
  go_ret
  exact ⟨_, rfl, Kd.R_mono n0_.out (fun k_ hk => hk.elim (fun h_ => .inl (.inl h_)) .inr), n1_.out, Kept.of_grown (S := fun k_ => P0_ k_ ∨ P2_ k_) n2_.out (Kept.refl w _) (fun k_ e_ => .inl (.inl (HP.out k_ e_)))⟩
set_option maxHeartbeats 4000000 in
theorem slices_Insert_Hold.calls (P0_ : Nat → Prop) (u9000_ : Value) (l0 : List (S44)) (a1 : Int) (P2_ : Nat → Prop) (u9001_ : Value) (l2 : List (S44)) (r : List (S44)) (w0 w : World) (hB : Below w0.heap.size w0 w) (ho0 : Kd.R k44 44 w w0.heap.size P0_ u9000_ l0) (hp0_2 : ∀ k_, P0_ k_ → ¬ P2_ k_) (ho2 : Kd.R k44 44 w w0.heap.size P2_ u9001_ l2) (hp2_0 : ∀ k_, P2_ k_ → ¬ P0_ k_) (h : slices_Insert_Hold.f l0 a1 l2 = some r) :
    Calls Try.prog 88 #[u9000_, .int .i64 a1, u9001_] w fun e w' => ∃ v0_ : Value, e = .returned (v0_) ∧ Kd.R k44 44 w' w0.heap.size (fun k_ => ((P0_ k_ ∨ P2_ k_) ∨ w.heap.size ≤ k_)) v0_ r ∧ Below w0.heap.size w0 w' ∧ Kept w w' (fun k_ => P0_ k_ ∨ P2_ k_) := by
  unfold slices_Insert_Hold.f at h
  by_cases hc : 0 ≤ a1 ∧ a1 ≤ (l0.length : Int) ∧ l2.length = 1 ∧ l0.length + 1 < 8796093022208
  · rw [if_pos hc] at h
    obtain ⟨c1, c2, c3, c4⟩ := hc
    obtain rfl := Option.some.inj h
    by_cases hl : a1 = (l0.length : Int)
    · have he : l0.take a1.toNat ++ l2 ++ l0.drop a1.toNat = l0 ++ l2 := by
        rw [hl, Int.toNat_natCast, List.take_of_length_le (Nat.le_refl _), List.drop_of_length_le (Nat.le_refl _), List.append_nil]
      rw [he]
      exact slices_Insert_Hold.last P0_ u9000_ l0 a1 P2_ u9001_ l2 w0 w hB ho0 ho2 hl c3 c4
    · obtain ⟨i, rfl⟩ := Int.eq_ofNat_of_zero_le c1
      have hi : i < l0.length := by omega
      obtain ⟨hb0, in0, hown0, hr0⟩ := ho0
      obtain ⟨hb2, in2, hown2, hr2⟩ := ho2
      have one0 := Kd.reps_one hr0 (show 0 < Kd.sz k44 from by decide) (fun p c hp => Kd.K_one _ (Kd.K_of_M _ hp))
      have one2 := Kd.reps_one hr2 (show 0 < Kd.sz k44 from by decide) (fun p c hp => Kd.K_one _ (Kd.K_of_M _ hp))
      have hsz : Kd.sz k44 = 2 := rfl
      rcases hown0 with ⟨hl0, ⟨rfl, h0⟩ | ⟨g, cap, cur, rfl, hgb, hg, hnc, hcm, hcs, hct⟩⟩
      · omega
      · rcases hown2 with ⟨hl2, ⟨rfl, h0⟩ | ⟨g2, cap2, cur2, rfl, hgb2, hg2, hnc2, hcm2, hcs2, hct2⟩⟩
        · omega
        · have hne : g2 ≠ g := fun e => hp0_2 g (hb0 g rfl) (by rw [← e]; exact hb2 g2 rfl)
          rw [c3, Nat.one_mul] at hct2
          rw [c3] at hnc2 hl2
          rw [hsz] at hct hct2 hcs hcs2 hl0 hl2
          have hl1 : (Value.slice (some (⟨g2, 0, none⟩ : Addr)) l2.length cap2) = .slice (some ⟨g2, 0, none⟩) 1 cap2 := by rw [c3]
          rw [hl1]
          have fin : ∀ (v1 : Value) (w1 : World), w1.ownsRow w0.heap.size 44 2 v1 (l0.length + 1) (in0.take (i * 2) ++ in2 ++ in0.drop (i * 2)) → w.grownBy w1 (some g) → (v1.ownBlock = some g ∨ ∃ b, v1.ownBlock = some b ∧ w.heap.size ≤ b) →
              ∃ v0_ : Value, Ending.returned v1 = .returned (v0_) ∧ Kd.R k44 44 w1 w0.heap.size (fun k_ => ((P0_ k_ ∨ P2_ k_) ∨ w.heap.size ≤ k_)) v0_ (l0.take i ++ l2 ++ l0.drop i) ∧ Below w0.heap.size w0 w1 ∧ Kept w w1 (fun k_ => P0_ k_ ∨ P2_ k_) := by
            intro v1 w1 hown hgr hat
            refine ⟨v1, rfl, ?_, ?_, ?_⟩
            · exact Kd_R_inserted (d := k44) (u := .slice (some ⟨g, 0, none⟩) l0.length cap) (v := .slice (some ⟨g2, 0, none⟩) l2.length cap2) i (by omega) hb0 hr0 hr2 hp0_2 (by rw [c3]; exact hown) hgr hat
            · exact hB.grown hgr hB.size (fun k hk => by injection hk with hk; omega)
            · exact Kept.of_grown (S := fun k_ => P0_ k_ ∨ P2_ k_) hgr (Kept.refl w _) (fun k_ e_ => .inl (.inl (hb0 k_ e_)))
          rw [Int.toNat_natCast]
          rw [← hct] at one0 fin
          rw [← hct2] at one2 fin
          by_cases hroom : l0.length + 1 ≤ cap
          · refine (slices_Insert_Hold.shift g l0.length cap i g2 cap2 cur cur2 w hi hroom (by unfold maxLen at hcm; omega) hg hg2 hne hcs (by rw [hcs2]; omega) one0 one2).mono ?_
            rintro e w' ⟨cur', rfl, q1, q2, q3, q4⟩
            refine fin _ w' ⟨?_, .inr ⟨g, cap, cur', rfl, hgb, q1, hroom, hcm, q3, q4⟩⟩ q2 (.inl rfl)
            rw [← q4, List.length_take, show cur'.toList.length = cap * 2 from Array.length_toList.trans q3, Nat.min_eq_left (by omega)]
          · refine (slices_Insert_Hold.grow g l0.length cap i g2 cap2 cur cur2 w hi hnc (by omega) (by omega) hg hg2 hcs (by rw [hcs2]; omega) one0 one2).mono ?_
            rintro e w' ⟨cur', G, rfl, q1, q2, q3, q4, q5, q6⟩
            refine fin _ w' ⟨?_, .inr ⟨w.heap.size, G, cur', rfl, hB.size, q1, q3, q4, q5, q6⟩⟩ ⟨q2.os, q2.tape, q2.output, q2.size, fun k hk _ => q2.block k hk (by simp)⟩ (.inr ⟨w.heap.size, rfl, Nat.le_refl _⟩)
            rw [← q6, List.length_take, show cur'.toList.length = G * 2 from Array.length_toList.trans q5, Nat.min_eq_left (by omega)]
  · rw [if_neg hc] at h
    exact absurd h (by simp)

/-! ### slices_BinarySearchFunc_uint64_at_channel_order: function 164 -/
def slices_BinarySearchFunc_uint64_at_channel_order.l0 : Nat → List (S44) → Int → Int → Int → Int → Option (Int × Bool)
  | 0, _, _, _, _, _ => none
  | k + 1, x0, x1, x8, x9, x10 => if x9 < x10 then (if 0 ≤ (wrap64 ((IntKind.u64.wrap (wrap64 (x9 + x10))) / 2)) then (if (wrap64 ((IntKind.u64.wrap (wrap64 (x9 + x10))) / 2)) < (x0.length : Int) then ((channel_order.f ((rd_T44 x0 (wrap64 ((IntKind.u64.wrap (wrap64 (x9 + x10))) / 2))).f0) ((rd_T44 x0 (wrap64 ((IntKind.u64.wrap (wrap64 (x9 + x10))) / 2))).f1) x1).bind fun t152 => (if t152 < 0 then (slices_BinarySearchFunc_uint64_at_channel_order.l0 k x0 x1 x8 (wrap64 ((wrap64 ((IntKind.u64.wrap (wrap64 (x9 + x10))) / 2)) + 1)) x10) else (slices_BinarySearchFunc_uint64_at_channel_order.l0 k x0 x1 x8 x9 (wrap64 ((IntKind.u64.wrap (wrap64 (x9 + x10))) / 2))))) else (none)) else (none)) else (if x9 < x8 then (if 0 ≤ x9 then (if x9 < (x0.length : Int) then ((channel_order.f ((rd_T44 x0 x9).f0) ((rd_T44 x0 x9).f1) x1).bind fun t154 => (some (x9, (t154 == 0)))) else (none)) else (none)) else (some (x9, false)))
def slices_BinarySearchFunc_uint64_at_channel_order.f (k : Nat) (l0 : List (S44)) (a1 : Int)  : Option (Int × Bool) := slices_BinarySearchFunc_uint64_at_channel_order.l0 k l0 a1 (l0.length : Int) 0 (l0.length : Int)
theorem slices_BinarySearchFunc_uint64_at_channel_order.mono_l : ∀ k, (∀ y0 y1 y2 y3 y4, LeO (slices_BinarySearchFunc_uint64_at_channel_order.l0 k y0 y1 y2 y3 y4) (slices_BinarySearchFunc_uint64_at_channel_order.l0 (k + 1) y0 y1 y2 y3 y4))
  | 0 => fun _ _ _ _ _ r h => by simp [slices_BinarySearchFunc_uint64_at_channel_order.l0] at h
  | k + 1 => by
    have ih0 := slices_BinarySearchFunc_uint64_at_channel_order.mono_l k
    · intro y0 y1 y2 y3 y4
      unfold slices_BinarySearchFunc_uint64_at_channel_order.l0
      repeat' first
      | (with_reducible exact ih0 _ _ _ _ _)
      | (with_reducible exact LeO.refl _)
      | (with_reducible refine LeO.ite ?_ ?_)
      | (with_reducible refine LeO.bind ?_ (fun _ => ?_))
      | exact ih0 _ _ _ _ _
      | exact LeO.none _
      | refine LeO.ite ?_ ?_
      | refine LeO.bind ?_ (fun _ => ?_)
theorem slices_BinarySearchFunc_uint64_at_channel_order.mono : ∀ a0 a1 k, LeO (slices_BinarySearchFunc_uint64_at_channel_order.f k a0 a1) (slices_BinarySearchFunc_uint64_at_channel_order.f (k + 1) a0 a1) := by
  intro a0 a1 k
  have ih0 := slices_BinarySearchFunc_uint64_at_channel_order.mono_l k
  unfold slices_BinarySearchFunc_uint64_at_channel_order.f
  repeat' first
      | (with_reducible exact ih0 _ _ _ _ _)
      | exact ih0 _ _ _ _ _
      | exact LeO.none _
      | refine LeO.ite ?_ ?_
      | refine LeO.bind ?_ (fun _ => ?_)
set_option maxHeartbeats 8000000 in
set_option maxRecDepth 100000 in
theorem slices_BinarySearchFunc_uint64_at_channel_order.calls (k : Nat) (A0 : Option Addr) (c0 : Nat) (l0 : List (S44)) (a1 : Int)  (r1 : Int) (r2 : Bool) (w : World) (hr0 : Kd.C k44 w A0 l0.length l0) (hc0 : l0.length ≤ c0) (h : slices_BinarySearchFunc_uint64_at_channel_order.f k l0 a1 = some (r1, r2)) :
    Calls Try.prog 85 #[.slice A0 l0.length c0, .int .u64 a1, .func (.func 86) #[] #[]] w fun e w' => e = .returned (.tuple #[.int .i64 r1, .bool r2]) ∧ Below w.heap.size w w' := by
  have hu44 := Try.underlying44
  have HR0 := aM_ hr0
  have HC0 := aM_ hc0
  clear hr0 hc0
  have HB := aM_ (Below.refl w.heap.size w)
  have H : (slices_BinarySearchFunc_uint64_at_channel_order.l0 k l0 a1 (l0.length : Int) 0 (l0.length : Int)) = some (r1, r2) := h
  clear h
  have H' := aM_ H
  clear H
  go_enter Try.func85, Try.ntmps85
  go_wp2
  go_loopg [9, 10] k (fun kq v9 v10 w' => ∃ (x9_1 : Int) (x10_1 : Int), v9 = .int .i64 x9_1 ∧ v10 = .int .i64 x10_1 ∧ Aside0 (slices_BinarySearchFunc_uint64_at_channel_order.l0 kq l0 a1 (l0.length : Int) x9_1 x10_1 = some (r1, r2)) ∧ Aside0 (kq ≤ k) ∧ Aside0 (Below w.heap.size w w'))
  case atStart => exact ⟨(0), ((l0.length : Int)), (by (rfl)), (by (rfl)), H', ⟨Nat.le_refl _⟩, ⟨by repeat (((with_reducible (exact HB.out))))⟩⟩
  case round =>
    clear H'
    obtain ⟨x9_1, x10_1, rfl, rfl, HA, HK1, HB⟩ := hrel
    cases gk with
    | zero => exact absurd HA.out (by simp [slices_BinarySearchFunc_uint64_at_channel_order.l0])
    | succ k1 =>
      have H := HA.out
      clear HA
      simp only [slices_BinarySearchFunc_uint64_at_channel_order.l0] at H
      by_cases c4 : x9_1 < x10_1
      · rw [if_pos c4] at H
        have c4b0 := decide_eq_true c4
        clear c4
        obtain ⟨ji5, hji5⟩ : ∃ j_ : Int, (wrap64 ((IntKind.u64.wrap (wrap64 (x9_1 + x10_1))) / 2)) = j_ := ⟨_, rfl⟩
        replace H : (if 0 ≤ (ji5) then (if (ji5) < (l0.length : Int) then ((channel_order.f ((rd_T44 l0 (ji5)).f0) ((rd_T44 l0 (ji5)).f1) a1).bind fun t152 => (if t152 < 0 then (slices_BinarySearchFunc_uint64_at_channel_order.l0 k1 l0 a1 (l0.length : Int) (wrap64 ((ji5) + 1)) x10_1) else (slices_BinarySearchFunc_uint64_at_channel_order.l0 k1 l0 a1 (l0.length : Int) x9_1 ji5))) else (none)) else (none)) = some (r1, r2) := by ((rw [hji5] at H; exact H))
        have hji5w : (IntKind.i64.wrap ((IntKind.u64.wrap (wrap64 (x9_1 + x10_1))) / 2)) = ji5 := (i64_w _).trans hji5
        by_cases c6 : 0 ≤ (ji5)
        · rw [if_pos c6] at H
          have c6b0 := decide_eq_true c6
          clear c6
          by_cases c7 : (ji5) < (l0.length : Int)
          · rw [if_pos c7] at H
            have c7b0 := decide_eq_true c7
            clear c7
            replace H := oB_ H
            obtain ⟨t152, A80, H⟩ := H
            replace H : (if t152 < 0 then (slices_BinarySearchFunc_uint64_at_channel_order.l0 k1 l0 a1 (l0.length : Int) (wrap64 ((ji5) + 1)) x10_1) else (slices_BinarySearchFunc_uint64_at_channel_order.l0 k1 l0 a1 (l0.length : Int) x9_1 ji5)) = some (r1, r2) := H
            have A8 := aM_ A80
            clear A80
            by_cases c9 : t152 < 0
            · rw [if_pos c9] at H
              have c9b0 := decide_eq_true c9
              clear c9
              have H' := aM_ H
              clear H
              have p151 : 0 ≤ ((ji5) : Int) := of_decide_eq_true (by ((with_reducible assumption)))
              have q151 : (ji5) < (l0.length : Int) := of_decide_eq_true (by ((with_reducible assumption)))
              obtain ⟨ad151, e151, hx151_0, hx151_1⟩ := at_T44 HR0.out (ji5) p151 q151
              cases e151
              replace hx151_0 := cN_ HB hx151_0
              replace hx151_1 := cN_ HB hx151_1
              replace p151 := eq_true p151
              replace q151 := eq_true q151
              go_wp2_with ((((with_reducible refine gate_tmp (t_ := 24) rfl ?_); refine goesT_ (some 30) rfl rfl Try.func86 (by kernel_rfl) rfl #[.agg #[.int .u64 ((rd_T44 l0 (ji5)).f0), .int .u64 ((rd_T44 l0 (ji5)).f1)], .int .u64 a1] rfl rfl (by (try simp only [List.map_toArray, List.map_cons, List.map_nil]); (rfl)) ?_; (with_reducible refine (channel_order.calls ((rd_T44 l0 (ji5)).f0) ((rd_T44 l0 (ji5)).f1) a1 t152 _ A8.out).mono ?_); rintro e w10 ⟨rfl, hb⟩; refine ⟨_, rfl, ?_⟩; replace HB := bsA_ HB hb; (try clear hb); (try clear hb2); (try clear hk); (try clear hi))))
              go_roundg k1
              case measure => have := HK1.out; omega
              case rel => exact ⟨(wrap64 ((ji5) + 1)), (x10_1), (by (rfl)), (by (rfl)), H', ⟨by have := HK1.out; omega⟩, ⟨by repeat (((with_reducible (exact HB.out))))⟩⟩
            · rw [if_neg c9] at H
              have c9b0 := decide_eq_false c9
              clear c9
              have H' := aM_ H
              clear H
              have p151 : 0 ≤ ((ji5) : Int) := of_decide_eq_true (by ((with_reducible assumption)))
              have q151 : (ji5) < (l0.length : Int) := of_decide_eq_true (by ((with_reducible assumption)))
              obtain ⟨ad151, e151, hx151_0, hx151_1⟩ := at_T44 HR0.out (ji5) p151 q151
              cases e151
              replace hx151_0 := cN_ HB hx151_0
              replace hx151_1 := cN_ HB hx151_1
              replace p151 := eq_true p151
              replace q151 := eq_true q151
              go_wp2_with ((((with_reducible refine gate_tmp (t_ := 24) rfl ?_); refine goesT_ (some 30) rfl rfl Try.func86 (by kernel_rfl) rfl #[.agg #[.int .u64 ((rd_T44 l0 (ji5)).f0), .int .u64 ((rd_T44 l0 (ji5)).f1)], .int .u64 a1] rfl rfl (by (try simp only [List.map_toArray, List.map_cons, List.map_nil]); (rfl)) ?_; (with_reducible refine (channel_order.calls ((rd_T44 l0 (ji5)).f0) ((rd_T44 l0 (ji5)).f1) a1 t152 _ A8.out).mono ?_); rintro e w11 ⟨rfl, hb⟩; refine ⟨_, rfl, ?_⟩; replace HB := bsA_ HB hb; (try clear hb); (try clear hb2); (try clear hk); (try clear hi))))
              go_roundg k1
              case measure => have := HK1.out; omega
              case rel => exact ⟨(x9_1), (ji5), (by (rfl)), (by (rfl)), H', ⟨by have := HK1.out; omega⟩, ⟨by repeat (((with_reducible (exact HB.out))))⟩⟩
          · rw [if_neg c7] at H
            exact absurd H (by simp)
        · rw [if_neg c6] at H
          exact absurd H (by simp)
      · rw [if_neg c4] at H
        have c4b0 := decide_eq_false c4
        clear c4
        by_cases c12 : x9_1 < (l0.length : Int)
        · rw [if_pos c12] at H
          have c12b0 := decide_eq_true c12
          clear c12
          by_cases c13 : 0 ≤ x9_1
          · rw [if_pos c13] at H
            have c13b0 := decide_eq_true c13
            clear c13
            by_cases c14 : x9_1 < (l0.length : Int)
            · rw [if_pos c14] at H
              have c14b0 := decide_eq_true c14
              clear c14
              replace H := oB_ H
              obtain ⟨t154, A150, H⟩ := H
              replace H : (some (x9_1, (t154 == 0))) = some (r1, r2) := H
              have A15 := aM_ A150
              clear A150
              simp only [Option.some.injEq, Prod.mk.injEq] at H
              obtain ⟨rfl, rfl⟩ := H
              have p153 : 0 ≤ (x9_1 : Int) := of_decide_eq_true (by ((with_reducible assumption)))
              have q153 : x9_1 < (l0.length : Int) := of_decide_eq_true (by ((with_reducible assumption)))
              obtain ⟨ad153, e153, hx153_0, hx153_1⟩ := at_T44 HR0.out x9_1 p153 q153
              cases e153
              replace hx153_0 := cN_ HB hx153_0
              replace hx153_1 := cN_ HB hx153_1
              replace p153 := eq_true p153
              replace q153 := eq_true q153
              go_wp2_with (((go_at_call 86; (with_reducible refine (channel_order.calls ((rd_T44 l0 x9_1).f0) ((rd_T44 l0 x9_1).f1) a1 t154 _ A15.out).mono ?_); rintro e w16 ⟨rfl, hb⟩; replace HB := bsA_ HB hb; (try clear hb); (try clear hb2); (try clear hk); (try clear hi))))
              go_ret2
              exact ⟨by (rfl), by repeat (((with_reducible (exact HB.out))))⟩
            · rw [if_neg c14] at H
              exact absurd H (by simp)
          · rw [if_neg c13] at H
            exact absurd H (by simp)
        · rw [if_neg c12] at H
          have c12b0 := decide_eq_false c12
          clear c12
          simp only [Option.some.injEq, Prod.mk.injEq] at H
          obtain ⟨rfl, rfl⟩ := H
          go_wp2
          go_ret2
          exact ⟨by (rfl), by repeat (((with_reducible (exact HB.out))))⟩

end Go.Proofs.Ytcfbcoinbecdfaa.P
