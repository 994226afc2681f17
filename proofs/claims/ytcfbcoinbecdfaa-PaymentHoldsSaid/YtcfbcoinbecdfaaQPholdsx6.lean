-- written by a program of this session (wip/print)
import Derived.Test.YtcfbcoinbecdfaaQPholdsx0
import Derived.Test.YtcfbcoinbecdfaaQPholdsx2
import Derived.Test.YtcfbcoinbecdfaaQPholdsx3
import Derived.Test.YtcfbcoinbecdfaaQPholdsx4
import Derived.Test.YtcfbcoinbecdfaaQPholdsx5
namespace Go.Proofs.Ytcfbcoinbecdfaa.P
open Go.RowKit Go.Proofs.YtcfbcoinbecdfaaW.PrintWords Go.Proofs.YtcfbcoinbecdfaaW.PrintLast Go.Proofs.YtcfbcoinbecdfaaW.PrintMore
attribute [local go_sem] max2_int min2_int max_two min_two max_three min_three max_four min_four run_sub64_   -- for this text's walks alone
set_option linter.unusedVariables false
set_option linter.unusedSimpArgs false

/-! ### ledger_owns: function 102 (by hand) -/
def slices_Clone_Channel_raw.f (l0 : List (List Value)) : Option (List (List Value)) := if l0.length < 1954687338268 then (some l0) else (none)
set_option maxHeartbeats 8000000 in
set_option maxRecDepth 100000 in
theorem slices_Clone_Channel_raw.calls (A0 : Option Addr) (c0 : Nat) (l0 : List (List Value)) (r : List (List Value)) (w : World) (hr0 : Kd.C (Kd.raw 7) w A0 l0.length l0) (hc0 : l0.length ≤ c0) (h : slices_Clone_Channel_raw.f l0 = some r) :
    Calls Try.prog 136 #[.slice A0 l0.length c0] w fun e w' => ∃ v0_ : Value, e = .returned (v0_) ∧ Kd.R (Kd.raw 7) 25 w' w.heap.size (fun _ => True) v0_ r ∧ Below w.heap.size w w' := by
  have H : (if l0.length < 1954687338268 then (some l0) else (none)) = some r := h
  clear h
  cases A0 with
  | none =>
    have hl : l0 = [] := C_none_ hr0
    subst hl
    have hr : r = [] := by simpa using H.symm
    subst hr
    clear H hr0
    have hnil := fun W => Lib.run_eql_slice_nil (P := Try.prog) W 47 25 none 0 c0 0 0 Try.underlying47
    go_enter Try.func136, Try.ntmps136
    go_wp2
    go_ret
    exact ⟨_, rfl, Kd.R_nil _ _ _ _ _, Below.refl _ _⟩
  | some A0 =>
    have HR0 := Aside0.mk hr0
    have HC0 := Aside0.mk hc0
    clear hr0 hc0
    have HB := Aside0.mk (Below.refl w.heap.size w)
    by_cases c2 : l0.length < 1954687338268
    · rw [if_pos c2] at H
      have LMc2 := Aside0.mk c2
      clear c2
      obtain rfl := Option.some.inj H
      have hnil := fun W => Lib.run_eql_slice_nil (P := Try.prog) W 47 25 (some A0) l0.length c0 0 0 Try.underlying47
      go_enter Try.func136, Try.ntmps136
      go_wp2_with (first | ((with_reducible refine gate_dst (N := 5) rfl ?_); refine Kd.R_lit (Kd.raw 7) _ 25 ?hg (N := 5) ?hd (xs := ([] : List (List Value))) (inner := []) (ok := fun _ => True) (okp := fun _ => True) ?hr ?hp (fun _ hk => hk) trivial (Below.refl _ _) (Nat.le_refl _) (by simp) ?_; (case hd => rfl); (case hg => rfl); (case hr => first | (go_simp; done) | (go_simp; rfl)); (case hp => exact (Reps.none _ _)); intro v141 w3 ho4 hb hg_ hnew_; clear hg_ hnew_; have n0_ := Aside0.mk (Kd.R_lower ho4 (below_size (by repeat (first | (with_reducible first | exact HB.out | apply below_alloc | apply pw_below_drewN | apply below_drew1) | exact HB.out)))); have n1_ := Aside0.mk (below_step (by repeat (first | (with_reducible first | exact HB.out | apply below_alloc | apply pw_below_drewN | apply below_drew1) | exact HB.out)) hb); clear HB; have HO142 := n0_; have HB := n1_; clear n0_ n1_; clear hb ho4) | ((with_reducible refine gate_builtin (b := .append) (xs := #[.tmp 5, .tmp 6]) rfl ?_); at_builtin; refine Kd.R_append_rows (Kd.raw 7) (w0 := w) w.heap.size rfl (.tmp 5) (.tmp 6) 47 25 (.agg #[(.int .u64 0), (.int .u64 0), (.int .u64 0), (.int .u64 0), (.int .u64 0), (.slice none 0 0), (.bool false)]) 72 rfl Try.underlying47 info25 rfl (by decide) (by omega) v141 [] l0 _ _ _ (fun _ => True) (fun _ => False) rfl rfl ?aO ?aR (fun _ _ h => h) (fun _ h => h.elim) ?aF ?aB ?aS ?aL ?_; (case aR => repeat (first | exact (Kd.C_below HR0.out HB.out) | (with_reducible refine Kd.C_alloc ?_ _) | (with_reducible refine Kd.C_drewN ?_ _) | (with_reducible refine Kd.C_drew ?_))); (case aB => exact (by repeat (first | (with_reducible first | exact HB.out | apply below_alloc | apply pw_below_drewN | apply below_drew1) | exact HB.out))); (case aF => exact (fun _ _ => trivial)); (case aO => exact (by (with_reducible repeat (first | apply Kd.R_alloc | apply Kd.R_drewN | apply Kd.R_drew)); exact HO142.out)); (case aS => exact (below_size (by repeat (first | (with_reducible first | exact HB.out | apply below_alloc | apply pw_below_drewN | apply below_drew1) | exact HB.out)))); (case aL => have := LMc2.out; simp only [List.length_nil]; omega); intro v144 w5 ho hb hg hat; rw [List.nil_append] at ho; have n0_ := Aside0.mk (hb); have n1_ := Aside0.mk (ho); clear HB; clear HO142; have HB := n0_; have HO145 := n1_; clear n0_ n1_; clear ho hb hg hat))
      go_ret
      exact ⟨_, by first | rfl | (simp [errW_none, errW_some] <;> rfl) | (simp [*, errW_none, errW_some] <;> rfl), by (with_reducible repeat (first | apply Kd.R_alloc | apply Kd.R_drewN | apply Kd.R_drew)); exact HO145.out, by repeat (first | (with_reducible first | exact HB.out | apply below_alloc | apply pw_below_drewN | apply below_drew1) | exact HB.out)⟩
    · rw [if_neg c2] at H
      exact absurd H (by simp)

def ledger_owns.f (l0 : List S25) : Option (List S25) := if l0.length ≤ 1000 ∧ l0.all (fun x => decide (x.f5.length ≤ 1000)) = true then some l0 else none
theorem owns_eq {l m : List S25} (h : ledger_owns.f l = some m) : m = l := by
  unfold ledger_owns.f at h
  by_cases q : l.length ≤ 1000 ∧ l.all (fun x => decide (x.f5.length ≤ 1000)) = true
  · rw [if_pos q] at h; injection h with h; exact h.symm
  · rw [if_neg q] at h; cases h
theorem own_eq (x : S25) (h : x.f5.length ≤ 1000) : ledger_own.f x.f0 x.f1 x.f2 x.f3 x.f4 x.f5 x.f6 = some (x.f0, x.f1, x.f2, x.f3, x.f4, x.f5, x.f6) := by
  unfold ledger_own.f slices_Clone_Hold.f
  rw [if_pos (by omega)]
  rfl
/-- How far the row's channels have been made. -/
def Half (w wr : World) (B i : Nat) (xs : List S25) (rows : List (List Value)) : Prop := ∀ (j : Nat) (x : S25), xs[j]? = some x → ∃ cs, rows[j]? = some cs ∧ (j < i → Ch wr B x cs) ∧ (i ≤ j → Ch0 w x cs)
theorem Half.step {w wr w2 w3 : World} {B i g : Nat} {xs : List S25} {rows : List (List Value)} {cur : Array Value} {x : S25} {cs : List Value} (h : Half w wr B i xs rows) (hb : Below wr.heap.size wr w2) (hg : w2.grownBy w3 (some g)) (hc : w2.heap[g]? = some (.cells cur 25 (0, 0))) (hx : xs[i]? = some x) (hn : Ch w2 B x cs) : Half w w3 B (i + 1) xs (rows.set i cs) := by
  intro j y hj
  obtain ⟨c0, q1, q2, q3⟩ := h j y hj
  have hjl : j < rows.length := (List.getElem?_eq_some_iff.1 q1).1
  by_cases e : j = i
  · subst e
    rw [hx] at hj
    injection hj with hj
    subst hj
    exact ⟨cs, List.getElem?_set_self hjl, fun _ => hn.grown hg hc, fun h => absurd h (by omega)⟩
  · exact ⟨c0, by rw [List.getElem?_set_ne (by omega)]; exact q1, fun h => ((q2 (by omega)).below hb).grown hg hc, fun h => q3 (by omega)⟩
set_option maxHeartbeats 8000000 in
set_option maxRecDepth 100000 in
theorem ledger_owns.calls (A0 : Option Addr) (c0 : Nat) (l0 : List S25) (r : List S25) (w : World) (hr0 : Kd.C k25 w A0 l0.length l0) (hc0 : l0.length ≤ c0) (h : ledger_owns.f l0 = some r) :
    Calls Try.prog 102 #[.slice A0 l0.length c0] w fun e w' => ∃ v : Value, e = .returned v ∧ Own25 w' w.heap.size v r ∧ Below w.heap.size w w' := by
  unfold ledger_owns.f at h
  by_cases hc : l0.length ≤ 1000 ∧ l0.all (fun x => decide (x.f5.length ≤ 1000)) = true
  case neg => rw [if_neg hc] at h; cases h
  rw [if_pos hc] at h
  injection h with h
  subst h
  obtain ⟨hlen, hall⟩ := hc
  obtain ⟨rows0, hC, hrl, hrow⟩ := raw_of_C hr0
  have CL := slices_Clone_Channel_raw.calls A0 c0 rows0 rows0 w (by rw [hrl]; exact hC) (by rw [hrl]; exact hc0) (by unfold slices_Clone_Channel_raw.f; rw [if_pos (by omega)])
  rw [hrl] at CL
  have HCL := Aside0.mk CL
  have HRL := Aside0.mk hrl
  have HH : Aside0 (Half w w w.heap.size 0 l0 rows0) := ⟨fun j x hj => by obtain ⟨cs, q1, q2⟩ := hrow j x hj; exact ⟨cs, q1, fun h => absurd h (by omega), fun _ => q2⟩⟩
  have HALL := Aside0.mk hall
  have HR0 := Aside0.mk hr0
  clear CL hC hrl hrow hall hr0 hc0
  go_enter Try.func102, Try.ntmps102
  go_wp2_with (go_at_call 136; refine HCL.out.mono ?_; rintro e w1 ⟨v, rfl, ho, hb⟩; clear HCL; obtain ⟨A1, c1, hv⟩ := Kd.R_slice ho; rw [HRL.out] at hv; subst hv; have HR := Aside0.mk ho; have HB := Aside0.mk hb; clear ho hb)
  have HH1 : Aside0 (Half w w1 w.heap.size 0 l0 rows0) := ⟨fun j x hj => by obtain ⟨cs, q1, q2, q3⟩ := HH.out j x hj; exact ⟨cs, q1, fun h => absurd h (by omega), q3⟩⟩
  clear HH
  go_loopw [9] (fun vi wr => ∃ (i : Nat) (rows : List (List Value)), i ≤ l0.length ∧ vi = .int .i64 i ∧ Aside0 (Kd.R (Kd.raw 7) 25 wr w.heap.size (fun _ => True) (.slice A1 l0.length c1) rows) ∧ Aside0 (rows.length = l0.length) ∧ Aside0 (Half w wr w.heap.size i l0 rows) ∧ Aside0 (Below w.heap.size w wr)) (fun vi _ => l0.length - (intOf vi).toNat)
  case atStart => exact ⟨0, rows0, Nat.zero_le _, rfl, HR, HRL, HH1, HB⟩
  case round =>
   clear HR HRL HH1 HB
   obtain ⟨i, rows, hi, rfl, HR, HRL, HH, HB⟩ := hrel
   by_cases hil : i < l0.length
   · obtain ⟨g, cap, hv, hbg, hgl, cur, hblk⟩ := Kd.R_form HR.out (by rw [HRL.out]; omega)
     injection hv with hv1 hv2 hv3
     subst hv1 hv3
     clear hv2
     obtain ⟨x, hx⟩ : ∃ x, l0[i]? = some x := ⟨_, List.getElem?_eq_getElem hil⟩
     obtain ⟨cs, q1, _, q3⟩ := HH.out i x hx
     obtain ⟨A5, c5, hcs, hl5, hi5⟩ := q3 (Nat.le_refl _)
     have hxl : x.f5.length ≤ 1000 := of_decide_eq_true (List.all_eq_true.1 HALL.out x (List.mem_of_getElem? hx))
     have hCr := (Kd.R_reads' HR.out).2.2
     obtain ⟨ad, ea, hcell⟩ := hCr.2.2 (by have := HRL.out; omega)
     injection ea with ea
     subst ea
     obtain ⟨c', r1, r2, r3⟩ := hcell i cs q1
     have e1 : c' = cs := r2.1
     subst e1
     have HCC : Aside0 (∀ j u, c'[j]? = some u → wr.cell? ⟨g, i * 7 + j, none⟩ = some u) := ⟨fun j u hj => by have := r3 j u hj; rw [add_plain] at this; exact this⟩
     subst hcs
     have hx0 : wr.cell? ⟨g, i * 7, none⟩ = some (.int .u64 x.f0) := HCC.out 0 _ rfl
     have hx1 := HCC.out 1 _ rfl
     have hx2 := HCC.out 2 _ rfl
     have hx3 := HCC.out 3 _ rfl
     have hx4 := HCC.out 4 _ rfl
     have hx5 := HCC.out 5 _ rfl
     have hx6 := HCC.out 6 _ rfl
     have HX := Aside0.mk hx
     have HL5 := Aside0.mk hl5
     have HI5 := Aside0.mk hi5
     have HXL := Aside0.mk hxl
     have HBG := Aside0.mk hbg
     have HGL := Aside0.mk hgl
     have HBLK := Aside0.mk hblk
     clear hx q1 q3 hl5 hi5 hxl hCr hcell r1 r2 r3 hbg hgl hblk
     go_wp2_with (first | (go_at_call 103; have hal := (Below.refl wr.heap.size wr).alloc (Nat.le_refl _) (.cells #[.int .u64 x.f0, .int .u64 x.f1, .int .u64 x.f2, .int .u64 x.f3, .int .u64 x.f4, .slice A5 x.f5.length c5, .bool x.f6] 25); refine (ledger_own.calls x.f0 x.f1 x.f2 x.f3 x.f4 A5 c5 x.f5 x.f6 x.f0 x.f1 x.f2 x.f3 x.f4 x.f5 x.f6 _ (Kd.C_below HI5.out (below_then HB.out HB.out.size hal)) HL5.out (own_eq x HXL.out)).mono ?_; rintro e w2 ⟨v5, rfl, ho, hb⟩; obtain ⟨An, cn, hv⟩ := Kd.R_slice ho; subst hv; have hb2 := below_then hal hal.size hb; have HB2 := Aside0.mk hb2; have HBW := Aside0.mk (below_then HB.out HB.out.size hb2); have HCH : Aside0 (Ch w2 w.heap.size x [.int .u64 x.f0, .int .u64 x.f1, .int .u64 x.f2, .int .u64 x.f3, .int .u64 x.f4, .slice An x.f5.length cn, .bool x.f6]) := ⟨⟨An, cn, rfl, (Kd.R_reads' ho).2.1, (Kd.R_reads' ho).2.2, row44_of_R ho (Nat.le_trans HB.out.size hal.size)⟩⟩; have HRA := Aside0.mk (Kd.R_below HR.out hb2); have HK2 := Aside0.mk (blk_below HBLK.out hb2); clear hal ho hb hb2 hx0 hx1 hx2 hx3 hx4 hx5 hx6 HXL) | ((with_reducible refine gate_ (.store 25 (.tmp 18) (.tmp 17)) rfl ?_); refine Kd.R_store (Kd.raw 7) (w0 := w) w.heap.size rfl rfl 25 (.tmp 18) (.tmp 17) rfl 25 (i : Int) 0 rows [.int .u64 x.f0, .int .u64 x.f1, .int .u64 x.f2, .int .u64 x.f3, .int .u64 x.f4, .slice An x.f5.length cn, .bool x.f6] (.agg #[.int .u64 x.f0, .int .u64 x.f1, .int .u64 x.f2, .int .u64 x.f3, .int .u64 x.f4, .slice An x.f5.length cn, .bool x.f6]) [.int .u64 x.f0, .int .u64 x.f1, .int .u64 x.f2, .int .u64 x.f3, .int .u64 x.f4, .slice An x.f5.length cn, .bool x.f6] [.int .u64 x.f0, .int .u64 x.f1, .int .u64 x.f2, .int .u64 x.f3, .int .u64 x.f4, .slice A5 x.f5.length c5, .bool x.f6] (fun _ => True) (fun _ => False) rfl (by rw [Int.toNat_natCast]; rfl) rfl rfl (by kernel_rfl) (by intro q hq; simp at hq; rcases hq with rfl | rfl | rfl | rfl | rfl | rfl | rfl <;> rfl) HRA.out (by omega) (by omega) rfl (fun j u hj => by rw [Int.toNat_natCast]; exact (HB2.out.cell (p := ⟨g, i * 7 + j, none⟩) HGL.out).trans (HCC.out j u hj)) (Nat.le_refl _) ⟨rfl, rfl, by intro q hq; simp at hq; rcases hq with rfl | rfl | rfl | rfl | rfl | rfl | rfl <;> rfl⟩ (fun _ hk => hk.elim) HBW.out ?_; intro w3 ho3 hb3 hg3; rw [Int.toNat_natCast] at ho3; have HR3 := Aside0.mk ho3; have HB3 := Aside0.mk hb3; have HH3 := Aside0.mk (Half.step HH.out HB2.out hg3 HK2.out HX.out HCH.out); have HRL3 : Aside0 ((rows.set i [.int .u64 x.f0, .int .u64 x.f1, .int .u64 x.f2, .int .u64 x.f3, .int .u64 x.f4, .slice An x.f5.length cn, .bool x.f6]).length = l0.length) := ⟨by rw [List.length_set]; exact HRL.out⟩; clear ho3 hb3 hg3 HRA HBW HCH))
     go_roundw
     case rel => exact ⟨i + 1, _, by omega, by go_num, HR3, HRL3, HH3, HB3⟩
     case measure => simp [intOf]; omega
   · obtain rfl : i = l0.length := by omega
     go_wp2
     go_ret
     refine ⟨_, rfl, ⟨rows, HR.out, HRL.out, fun j x hj => ?_⟩, HB.out⟩
     obtain ⟨cs, q1, q2, _⟩ := HH.out j x hj
     exact ⟨cs, q1, q2 (List.getElem?_eq_some_iff.1 hj).1⟩

/-! ### ledger_Check: function 54 (by hand) -/
def ledger_Check.f (k : Nat) (l0 : List S25) : Option Int := (ledger_read.f k l0).bind fun r => some r.2
theorem ledger_Check.mono : ∀ a0 k, LeO (ledger_Check.f k a0) (ledger_Check.f (k + 1) a0) := by
  intro a0 k
  unfold ledger_Check.f
  exact LeO.bind (ledger_read.mono _ _) (fun _ => LeO.refl _)
set_option maxHeartbeats 1000000 in
theorem ledger_Check.calls (k : Nat) (A0 : Option Addr) (c0 : Nat) (l0 : List (S25)) (r : Int) (w : World) (hr0 : Kd.C k25 w A0 l0.length l0) (hc0 : l0.length ≤ c0) (h : ledger_Check.f k l0 = some r) :
    Calls Try.prog 54 #[.slice A0 l0.length c0] w fun e w' => e = .returned (.int .i64 r) ∧ Below w.heap.size w w' := by
  have HR0 := Aside0.mk hr0
  have HC0 := Aside0.mk hc0
  clear hr0 hc0
  unfold ledger_Check.f at h
  obtain ⟨q, h1, h2⟩ := Option.bind_eq_some_iff.mp h
  injection h2 with h2
  have HF := Aside0.mk h1
  clear h h1
  by_cases hq : q.2 = 0
  · have hr : r = 0 := by omega
    subst hr
    have HQ := Aside0.mk hq
    clear hq h2
    go_enter Try.func54, Try.ntmps54
    go_wp2_with (go_at_call 107; refine (ledger_read.calls k A0 c0 l0 q _ HR0.out HC0.out HF.out).mono ?_; rintro e w1 ⟨hp, _, hb⟩; obtain ⟨B, hB, he, _⟩ := hp HQ.out; subst he; have HB := Aside0.mk hb; clear hp hb hB HF)
    go_ret
    exact ⟨rfl, HB.out⟩
  · subst h2
    have HQ := Aside0.mk hq
    clear hq
    go_enter Try.func54, Try.ntmps54
    go_wp2_with (go_at_call 107; refine (ledger_read.calls k A0 c0 l0 q _ HR0.out HC0.out HF.out).mono ?_; rintro e w1 ⟨_, hp, hb⟩; have he := hp HQ.out; subst he; have HB := Aside0.mk hb; clear hp hb HF)
    go_ret
    exact ⟨rfl, HB.out⟩

-- NOT PRINTED: function 99 (slices_BinarySearchFunc_uint64_99)

/-! ### slices_BinarySearchFunc_uint64_at_ledger_order: function 164 -/
def slices_BinarySearchFunc_uint64_at_ledger_order.l0 : Nat → List (S25) → Int → Int → Int → Int → Option (Int × Bool)
  | 0, _, _, _, _, _ => none
  | k + 1, x0, x1, x8, x9, x10 => if x9 < x10 then (if 0 ≤ (wrap64 ((IntKind.u64.wrap (wrap64 (x9 + x10))) / 2)) then (if (wrap64 ((IntKind.u64.wrap (wrap64 (x9 + x10))) / 2)) < (x0.length : Int) then ((ledger_order.f ((rd_T25 x0 (wrap64 ((IntKind.u64.wrap (wrap64 (x9 + x10))) / 2))).f0) ((rd_T25 x0 (wrap64 ((IntKind.u64.wrap (wrap64 (x9 + x10))) / 2))).f1) ((rd_T25 x0 (wrap64 ((IntKind.u64.wrap (wrap64 (x9 + x10))) / 2))).f2) ((rd_T25 x0 (wrap64 ((IntKind.u64.wrap (wrap64 (x9 + x10))) / 2))).f3) ((rd_T25 x0 (wrap64 ((IntKind.u64.wrap (wrap64 (x9 + x10))) / 2))).f4) ((rd_T25 x0 (wrap64 ((IntKind.u64.wrap (wrap64 (x9 + x10))) / 2))).f5) ((rd_T25 x0 (wrap64 ((IntKind.u64.wrap (wrap64 (x9 + x10))) / 2))).f6) x1).bind fun t167 => (if t167 < 0 then (slices_BinarySearchFunc_uint64_at_ledger_order.l0 k x0 x1 x8 (wrap64 ((wrap64 ((IntKind.u64.wrap (wrap64 (x9 + x10))) / 2)) + 1)) x10) else (slices_BinarySearchFunc_uint64_at_ledger_order.l0 k x0 x1 x8 x9 (wrap64 ((IntKind.u64.wrap (wrap64 (x9 + x10))) / 2))))) else (none)) else (none)) else (if x9 < x8 then (if 0 ≤ x9 then (if x9 < (x0.length : Int) then ((ledger_order.f ((rd_T25 x0 x9).f0) ((rd_T25 x0 x9).f1) ((rd_T25 x0 x9).f2) ((rd_T25 x0 x9).f3) ((rd_T25 x0 x9).f4) ((rd_T25 x0 x9).f5) ((rd_T25 x0 x9).f6) x1).bind fun t169 => (some (x9, (t169 == 0)))) else (none)) else (none)) else (some (x9, false)))
def slices_BinarySearchFunc_uint64_at_ledger_order.f (k : Nat) (l0 : List (S25)) (a1 : Int)  : Option (Int × Bool) := slices_BinarySearchFunc_uint64_at_ledger_order.l0 k l0 a1 (l0.length : Int) 0 (l0.length : Int)
theorem slices_BinarySearchFunc_uint64_at_ledger_order.mono_l : ∀ k, (∀ y0 y1 y2 y3 y4, LeO (slices_BinarySearchFunc_uint64_at_ledger_order.l0 k y0 y1 y2 y3 y4) (slices_BinarySearchFunc_uint64_at_ledger_order.l0 (k + 1) y0 y1 y2 y3 y4))
  | 0 => fun _ _ _ _ _ r h => by simp [slices_BinarySearchFunc_uint64_at_ledger_order.l0] at h
  | k + 1 => by
    have ih0 := slices_BinarySearchFunc_uint64_at_ledger_order.mono_l k
    · intro y0 y1 y2 y3 y4
      unfold slices_BinarySearchFunc_uint64_at_ledger_order.l0
      repeat' first
      | (with_reducible exact ih0 _ _ _ _ _)
      | (with_reducible exact LeO.refl _)
      | (with_reducible exact LeO.none _)
      | (with_reducible refine LeO.ite ?_ ?_)
      | (with_reducible refine LeO.bind ?_ (fun _ => ?_))
      | exact ih0 _ _ _ _ _
      | exact LeO.none _
      | refine LeO.ite ?_ ?_
      | refine LeO.bind ?_ (fun _ => ?_)
theorem slices_BinarySearchFunc_uint64_at_ledger_order.mono : ∀ a0 a1 k, LeO (slices_BinarySearchFunc_uint64_at_ledger_order.f k a0 a1) (slices_BinarySearchFunc_uint64_at_ledger_order.f (k + 1) a0 a1) := by
  intro a0 a1 k
  have ih0 := slices_BinarySearchFunc_uint64_at_ledger_order.mono_l k
  unfold slices_BinarySearchFunc_uint64_at_ledger_order.f
  repeat' first
      | (with_reducible exact ih0 _ _ _ _ _)
      | (with_reducible exact LeO.refl _)
      | (with_reducible exact LeO.none _)
      | (with_reducible refine LeO.ite ?_ ?_)
      | (with_reducible refine LeO.bind ?_ (fun _ => ?_))
      | exact ih0 _ _ _ _ _
      | exact LeO.none _
      | refine LeO.ite ?_ ?_
      | refine LeO.bind ?_ (fun _ => ?_)
set_option maxHeartbeats 8000000 in
set_option maxRecDepth 100000 in
theorem slices_BinarySearchFunc_uint64_at_ledger_order.calls (k : Nat) (A0 : Option Addr) (c0 : Nat) (l0 : List (S25)) (a1 : Int)  (r1 : Int) (r2 : Bool) (w : World) (hr0 : Kd.C k25 w A0 l0.length l0) (hc0 : l0.length ≤ c0) (h : slices_BinarySearchFunc_uint64_at_ledger_order.f k l0 a1 = some (r1, r2)) :
    Calls Try.prog 99 #[.slice A0 l0.length c0, .int .u64 a1, .func (.func 100) #[] #[]] w fun e w' => e = .returned (.tuple #[.int .i64 r1, .bool r2]) ∧ Below w.heap.size w w' := by
  have hu25 := Try.underlying25
  have HR0 := Aside0.mk hr0
  have HC0 := Aside0.mk hc0
  clear hr0 hc0
  have HB := Aside0.mk (Below.refl w.heap.size w)
  have H : (slices_BinarySearchFunc_uint64_at_ledger_order.l0 k l0 a1 (l0.length : Int) 0 (l0.length : Int)) = some (r1, r2) := h
  clear h
  have H' := Aside0.mk H
  clear H
  go_enter Try.func99, Try.ntmps99
  go_wp2
  go_loopg [9, 10] k (fun kq v9 v10 w' => ∃ (x9_1 : Int) (x10_1 : Int), v9 = .int .i64 x9_1 ∧ v10 = .int .i64 x10_1 ∧ Aside0 (slices_BinarySearchFunc_uint64_at_ledger_order.l0 kq l0 a1 (l0.length : Int) x9_1 x10_1 = some (r1, r2)) ∧ Aside0 (kq ≤ k) ∧ Aside0 (Below w.heap.size w w'))
  case atStart => exact ⟨(0), ((l0.length : Int)), (by first | rfl | (simp; done) | (simp [*]; done)), (by first | rfl | (simp; done) | (simp [*]; done)), H', ⟨Nat.le_refl _⟩, ⟨by repeat (first | (with_reducible first | exact HB.out | apply below_alloc | apply pw_below_drewN | apply below_drew1) | exact HB.out)⟩⟩
  case round =>
    clear H'
    try clear p2
    obtain ⟨x9_1, x10_1, rfl, rfl, HA, HK1, HB⟩ := hrel
    cases gk with
    | zero => exact absurd HA.out (by simp [slices_BinarySearchFunc_uint64_at_ledger_order.l0])
    | succ k1 =>
      have H := HA.out
      clear HA
      simp only [slices_BinarySearchFunc_uint64_at_ledger_order.l0] at H
      by_cases c4 : x9_1 < x10_1
      · rw [if_pos c4] at H
        have c4b0 : decide (x9_1 < x10_1) = true := decide_eq_true c4
        clear c4
        obtain ⟨ji5, hji5⟩ : ∃ j_ : Int, (wrap64 ((IntKind.u64.wrap (wrap64 (x9_1 + x10_1))) / 2)) = j_ := ⟨_, rfl⟩
        replace H : (if 0 ≤ (ji5) then (if (ji5) < (l0.length : Int) then ((ledger_order.f ((rd_T25 l0 (ji5)).f0) ((rd_T25 l0 (ji5)).f1) ((rd_T25 l0 (ji5)).f2) ((rd_T25 l0 (ji5)).f3) ((rd_T25 l0 (ji5)).f4) ((rd_T25 l0 (ji5)).f5) ((rd_T25 l0 (ji5)).f6) a1).bind fun t167 => (if t167 < 0 then (slices_BinarySearchFunc_uint64_at_ledger_order.l0 k1 l0 a1 (l0.length : Int) (wrap64 ((ji5) + 1)) x10_1) else (slices_BinarySearchFunc_uint64_at_ledger_order.l0 k1 l0 a1 (l0.length : Int) x9_1 ji5))) else (none)) else (none)) = some (r1, r2) := by first | (rw [hji5] at H; exact H) | (simp only [hji5] at H ⊢; exact H)
        have hji5w : (IntKind.i64.wrap ((IntKind.u64.wrap (wrap64 (x9_1 + x10_1))) / 2)) = ji5 := (i64_w _).trans hji5
        by_cases c6 : 0 ≤ (ji5)
        · rw [if_pos c6] at H
          have c6b0 : decide (0 ≤ (ji5)) = true := decide_eq_true c6
          clear c6
          by_cases c7 : (ji5) < (l0.length : Int)
          · rw [if_pos c7] at H
            have c7b0 : decide ((ji5) < (l0.length : Int)) = true := decide_eq_true c7
            clear c7
            replace H := Option.bind_eq_some_iff.mp H
            obtain ⟨t167, A80, H⟩ := H
            replace H : (if t167 < 0 then (slices_BinarySearchFunc_uint64_at_ledger_order.l0 k1 l0 a1 (l0.length : Int) (wrap64 ((ji5) + 1)) x10_1) else (slices_BinarySearchFunc_uint64_at_ledger_order.l0 k1 l0 a1 (l0.length : Int) x9_1 ji5)) = some (r1, r2) := H
            have A8 := Aside0.mk A80
            clear A80
            by_cases c9 : t167 < 0
            · rw [if_pos c9] at H
              have c9b0 : decide (t167 < 0) = true := decide_eq_true c9
              clear c9
              have H' := Aside0.mk H
              clear H
              have p166 : 0 ≤ ((ji5) : Int) := of_decide_eq_true (by first | (with_reducible assumption) | assumption)
              have q166 : (ji5) < (l0.length : Int) := of_decide_eq_true (by first | (with_reducible assumption) | assumption)
              obtain ⟨ad166, A166_5, c166_5, e166, hx166_0, hx166_1, hx166_2, hx166_3, hx166_4, hx166_5, hx166_6, hl166_5, hi166_5⟩ := at_T25 HR0.out (ji5) p166 q166
              cases e166
              replace hx166_0 := (HB.out.cell (World.block_lt_of_cell? w _ hx166_0)).trans hx166_0
              replace hx166_1 := (HB.out.cell (World.block_lt_of_cell? w _ hx166_1)).trans hx166_1
              replace hx166_2 := (HB.out.cell (World.block_lt_of_cell? w _ hx166_2)).trans hx166_2
              replace hx166_3 := (HB.out.cell (World.block_lt_of_cell? w _ hx166_3)).trans hx166_3
              replace hx166_4 := (HB.out.cell (World.block_lt_of_cell? w _ hx166_4)).trans hx166_4
              replace hx166_5 := (HB.out.cell (World.block_lt_of_cell? w _ hx166_5)).trans hx166_5
              replace hx166_6 := (HB.out.cell (World.block_lt_of_cell? w _ hx166_6)).trans hx166_6
              have HR166_5 := Aside0.mk hi166_5
              have HC166_5 := Aside0.mk hl166_5
              clear hi166_5 hl166_5
              replace p166 := eq_true p166
              replace q166 := eq_true q166
              go_wp2_with (first | ((with_reducible refine gate_tmp (t_ := 24) rfl ?_); refine goesT_ (some 30) rfl rfl Try.func100 (by kernel_rfl) rfl #[.agg #[.int .u64 ((rd_T25 l0 (ji5)).f0), .int .u64 ((rd_T25 l0 (ji5)).f1), .int .u64 ((rd_T25 l0 (ji5)).f2), .int .u64 ((rd_T25 l0 (ji5)).f3), .int .u64 ((rd_T25 l0 (ji5)).f4), .slice A166_5 ((rd_T25 l0 (ji5)).f5).length c166_5, .bool ((rd_T25 l0 (ji5)).f6)], .int .u64 a1] rfl rfl (by (try simp only [List.map_toArray, List.map_cons, List.map_nil]); first | done | (simp only [hji5]; rfl) | rfl | (simp only [List.length_drop, List.length_take]; rfl)) ?_; (with_reducible refine (ledger_order.calls ((rd_T25 l0 (ji5)).f0) ((rd_T25 l0 (ji5)).f1) ((rd_T25 l0 (ji5)).f2) ((rd_T25 l0 (ji5)).f3) ((rd_T25 l0 (ji5)).f4) _ _ ((rd_T25 l0 (ji5)).f5) ((rd_T25 l0 (ji5)).f6) a1 t167 _ ?side1 ?side2 A8.out).mono ?_); (case side1 => repeat (first | exact (Kd.C_below HR166_5.out HB.out) | (with_reducible refine Kd.C_alloc ?_ _) | (with_reducible refine Kd.C_drewN ?_ _) | (with_reducible refine Kd.C_drew ?_))); (case side2 => exact HC166_5.out); rintro e w10 ⟨rfl, hb⟩; refine ⟨_, rfl, ?_⟩; have n0_ := Aside0.mk (below_step (belN HB) hb); clear HB; have HB := n0_; clear n0_; (try clear hb); (try clear hb2); (try clear hk); (try clear hi)))
              go_roundg k1
              case measure => have := HK1.out; omega
              case rel => exact ⟨(wrap64 ((ji5) + 1)), (x10_1), (by first | rfl | (simp; done) | (simp only [← hji5] <;> (first | rfl | simp)) | (simp [*]; done)), (by first | rfl | (simp; done) | (simp [*]; done)), H', ⟨by have := HK1.out; omega⟩, ⟨by repeat (first | (with_reducible first | exact HB.out | apply below_alloc | apply pw_below_drewN | apply below_drew1) | exact HB.out)⟩⟩
            · rw [if_neg c9] at H
              have c9b0 : decide (t167 < 0) = false := decide_eq_false c9
              clear c9
              have H' := Aside0.mk H
              clear H
              have p166 : 0 ≤ ((ji5) : Int) := of_decide_eq_true (by first | (with_reducible assumption) | assumption)
              have q166 : (ji5) < (l0.length : Int) := of_decide_eq_true (by first | (with_reducible assumption) | assumption)
              obtain ⟨ad166, A166_5, c166_5, e166, hx166_0, hx166_1, hx166_2, hx166_3, hx166_4, hx166_5, hx166_6, hl166_5, hi166_5⟩ := at_T25 HR0.out (ji5) p166 q166
              cases e166
              replace hx166_0 := (HB.out.cell (World.block_lt_of_cell? w _ hx166_0)).trans hx166_0
              replace hx166_1 := (HB.out.cell (World.block_lt_of_cell? w _ hx166_1)).trans hx166_1
              replace hx166_2 := (HB.out.cell (World.block_lt_of_cell? w _ hx166_2)).trans hx166_2
              replace hx166_3 := (HB.out.cell (World.block_lt_of_cell? w _ hx166_3)).trans hx166_3
              replace hx166_4 := (HB.out.cell (World.block_lt_of_cell? w _ hx166_4)).trans hx166_4
              replace hx166_5 := (HB.out.cell (World.block_lt_of_cell? w _ hx166_5)).trans hx166_5
              replace hx166_6 := (HB.out.cell (World.block_lt_of_cell? w _ hx166_6)).trans hx166_6
              have HR166_5 := Aside0.mk hi166_5
              have HC166_5 := Aside0.mk hl166_5
              clear hi166_5 hl166_5
              replace p166 := eq_true p166
              replace q166 := eq_true q166
              go_wp2_with (first | ((with_reducible refine gate_tmp (t_ := 24) rfl ?_); refine goesT_ (some 30) rfl rfl Try.func100 (by kernel_rfl) rfl #[.agg #[.int .u64 ((rd_T25 l0 (ji5)).f0), .int .u64 ((rd_T25 l0 (ji5)).f1), .int .u64 ((rd_T25 l0 (ji5)).f2), .int .u64 ((rd_T25 l0 (ji5)).f3), .int .u64 ((rd_T25 l0 (ji5)).f4), .slice A166_5 ((rd_T25 l0 (ji5)).f5).length c166_5, .bool ((rd_T25 l0 (ji5)).f6)], .int .u64 a1] rfl rfl (by (try simp only [List.map_toArray, List.map_cons, List.map_nil]); first | done | (simp only [hji5]; rfl) | rfl | (simp only [List.length_drop, List.length_take]; rfl)) ?_; (with_reducible refine (ledger_order.calls ((rd_T25 l0 (ji5)).f0) ((rd_T25 l0 (ji5)).f1) ((rd_T25 l0 (ji5)).f2) ((rd_T25 l0 (ji5)).f3) ((rd_T25 l0 (ji5)).f4) _ _ ((rd_T25 l0 (ji5)).f5) ((rd_T25 l0 (ji5)).f6) a1 t167 _ ?side1 ?side2 A8.out).mono ?_); (case side1 => repeat (first | exact (Kd.C_below HR166_5.out HB.out) | (with_reducible refine Kd.C_alloc ?_ _) | (with_reducible refine Kd.C_drewN ?_ _) | (with_reducible refine Kd.C_drew ?_))); (case side2 => exact HC166_5.out); rintro e w11 ⟨rfl, hb⟩; refine ⟨_, rfl, ?_⟩; have n0_ := Aside0.mk (below_step (belN HB) hb); clear HB; have HB := n0_; clear n0_; (try clear hb); (try clear hb2); (try clear hk); (try clear hi)))
              go_roundg k1
              case measure => have := HK1.out; omega
              case rel => exact ⟨(x9_1), (ji5), (by first | rfl | (simp; done) | (simp [*]; done)), (by first | rfl | (simp; done) | (simp only [← hji5] <;> (first | rfl | simp)) | (simp [*]; done)), H', ⟨by have := HK1.out; omega⟩, ⟨by repeat (first | (with_reducible first | exact HB.out | apply below_alloc | apply pw_below_drewN | apply below_drew1) | exact HB.out)⟩⟩
          · rw [if_neg c7] at H
            exact absurd H (by simp)
        · rw [if_neg c6] at H
          exact absurd H (by simp)
      · rw [if_neg c4] at H
        have c4b0 : decide (x9_1 < x10_1) = false := decide_eq_false c4
        clear c4
        by_cases c12 : x9_1 < (l0.length : Int)
        · rw [if_pos c12] at H
          have c12b0 : decide (x9_1 < (l0.length : Int)) = true := decide_eq_true c12
          clear c12
          by_cases c13 : 0 ≤ x9_1
          · rw [if_pos c13] at H
            have c13b0 : decide (0 ≤ x9_1) = true := decide_eq_true c13
            clear c13
            by_cases c14 : x9_1 < (l0.length : Int)
            · rw [if_pos c14] at H
              have c14b0 : decide (x9_1 < (l0.length : Int)) = true := decide_eq_true c14
              clear c14
              replace H := Option.bind_eq_some_iff.mp H
              obtain ⟨t169, A150, H⟩ := H
              replace H : (some (x9_1, (t169 == 0))) = some (r1, r2) := H
              have A15 := Aside0.mk A150
              clear A150
              simp only [Option.some.injEq, Prod.mk.injEq] at H
              obtain ⟨rfl, rfl⟩ := H
              have p168 : 0 ≤ (x9_1 : Int) := of_decide_eq_true (by first | (with_reducible assumption) | assumption)
              have q168 : x9_1 < (l0.length : Int) := of_decide_eq_true (by first | (with_reducible assumption) | assumption)
              obtain ⟨ad168, A168_5, c168_5, e168, hx168_0, hx168_1, hx168_2, hx168_3, hx168_4, hx168_5, hx168_6, hl168_5, hi168_5⟩ := at_T25 HR0.out x9_1 p168 q168
              cases e168
              replace hx168_0 := (HB.out.cell (World.block_lt_of_cell? w _ hx168_0)).trans hx168_0
              replace hx168_1 := (HB.out.cell (World.block_lt_of_cell? w _ hx168_1)).trans hx168_1
              replace hx168_2 := (HB.out.cell (World.block_lt_of_cell? w _ hx168_2)).trans hx168_2
              replace hx168_3 := (HB.out.cell (World.block_lt_of_cell? w _ hx168_3)).trans hx168_3
              replace hx168_4 := (HB.out.cell (World.block_lt_of_cell? w _ hx168_4)).trans hx168_4
              replace hx168_5 := (HB.out.cell (World.block_lt_of_cell? w _ hx168_5)).trans hx168_5
              replace hx168_6 := (HB.out.cell (World.block_lt_of_cell? w _ hx168_6)).trans hx168_6
              have HR168_5 := Aside0.mk hi168_5
              have HC168_5 := Aside0.mk hl168_5
              clear hi168_5 hl168_5
              replace p168 := eq_true p168
              replace q168 := eq_true q168
              go_wp2_with (first | (go_at_call 100; (with_reducible refine (ledger_order.calls ((rd_T25 l0 x9_1).f0) ((rd_T25 l0 x9_1).f1) ((rd_T25 l0 x9_1).f2) ((rd_T25 l0 x9_1).f3) ((rd_T25 l0 x9_1).f4) _ _ ((rd_T25 l0 x9_1).f5) ((rd_T25 l0 x9_1).f6) a1 t169 _ ?side1 ?side2 A15.out).mono ?_); (case side1 => repeat (first | exact (Kd.C_below HR168_5.out HB.out) | (with_reducible refine Kd.C_alloc ?_ _) | (with_reducible refine Kd.C_drewN ?_ _) | (with_reducible refine Kd.C_drew ?_))); (case side2 => exact HC168_5.out); rintro e w16 ⟨rfl, hb⟩; have n0_ := Aside0.mk (below_step (belN HB) hb); clear HB; have HB := n0_; clear n0_; (try clear hb); (try clear hb2); (try clear hk); (try clear hi)))
              go_ret2
              exact ⟨by first | rfl | (simp [errW_none, errW_some] <;> rfl) | (simp [*, errW_none, errW_some] <;> rfl), by repeat (first | (with_reducible first | exact HB.out | apply below_alloc | apply pw_below_drewN | apply below_drew1) | exact HB.out)⟩
            · rw [if_neg c14] at H
              exact absurd H (by simp)
          · rw [if_neg c13] at H
            exact absurd H (by simp)
        · rw [if_neg c12] at H
          have c12b0 : decide (x9_1 < (l0.length : Int)) = false := decide_eq_false c12
          clear c12
          simp only [Option.some.injEq, Prod.mk.injEq] at H
          obtain ⟨rfl, rfl⟩ := H
          go_wp2
          go_ret2
          exact ⟨by first | rfl | (simp [errW_none, errW_some] <;> rfl) | (simp [*, errW_none, errW_some] <;> rfl), by repeat (first | (with_reducible first | exact HB.out | apply below_alloc | apply pw_below_drewN | apply below_drew1) | exact HB.out)⟩

/-! ### ledger_place: function 104 -/
def ledger_place.f (k : Nat) (l0 : List (S25)) (a1 : Int) : Option (Int × Int) := (ledger_Check.f k l0).bind fun t170 => (if t170 = 0 then ((slices_BinarySearchFunc_uint64_at_ledger_order.f k l0 a1).bind fun bt171 => (if bt171.2 = true then (some (bt171.1, 0)) else (some (0, 5)))) else (some (0, t170)))
theorem ledger_place.mono : ∀ a0 a1 k, LeO (ledger_place.f k a0 a1) (ledger_place.f (k + 1) a0 a1) := by
  intro a0 a1 k
  unfold ledger_place.f
  repeat' first
      | (with_reducible exact ledger_Check.mono _ _)
      | (with_reducible exact slices_BinarySearchFunc_uint64_at_ledger_order.mono _ _ _)
      | (with_reducible exact LeO.refl _)
      | (with_reducible exact LeO.none _)
      | (with_reducible refine LeO.ite ?_ ?_)
      | (with_reducible refine LeO.bind ?_ (fun _ => ?_))
      | exact ledger_Check.mono _ _
      | exact slices_BinarySearchFunc_uint64_at_ledger_order.mono _ _ _
      | exact LeO.none _
      | refine LeO.ite ?_ ?_
      | refine LeO.bind ?_ (fun _ => ?_)
set_option maxHeartbeats 8000000 in
set_option maxRecDepth 100000 in
theorem ledger_place.calls (k : Nat) (A0 : Option Addr) (c0 : Nat) (l0 : List (S25)) (a1 : Int) (r1 : Int) (r2 : Int) (w : World) (hr0 : Kd.C k25 w A0 l0.length l0) (hc0 : l0.length ≤ c0) (h : ledger_place.f k l0 a1 = some (r1, r2)) :
    Calls Try.prog 104 #[.slice A0 l0.length c0, .int .u64 a1] w fun e w' => e = .returned (.tuple #[.int .i64 r1, .int .i64 r2]) ∧ Below w.heap.size w w' := by
  have HR0 := Aside0.mk hr0
  have HC0 := Aside0.mk hc0
  clear hr0 hc0
  have HB := Aside0.mk (Below.refl w.heap.size w)
  have H : ((ledger_Check.f k l0).bind fun t170 => (if t170 = 0 then ((slices_BinarySearchFunc_uint64_at_ledger_order.f k l0 a1).bind fun bt171 => (if bt171.2 = true then (some (bt171.1, 0)) else (some (0, 5)))) else (some (0, t170)))) = some (r1, r2) := h
  clear h
  replace H := Option.bind_eq_some_iff.mp H
  obtain ⟨t170, A30, H⟩ := H
  replace H : (if t170 = 0 then ((slices_BinarySearchFunc_uint64_at_ledger_order.f k l0 a1).bind fun bt171 => (if bt171.2 = true then (some (bt171.1, 0)) else (some (0, 5)))) else (some (0, t170))) = some (r1, r2) := H
  have A3 := Aside0.mk A30
  clear A30
  by_cases c4 : t170 = 0
  · rw [if_pos c4] at H
    have c4b0 : (t170 == 0) = true := beq_iff_eq.mpr c4
    have c4b1 : (t170 != 0) = false := bne_eq_false_iff_eq.mpr c4
    clear c4
    replace H := Option.bind_eq_some_iff.mp H
    obtain ⟨⟨t171, t172⟩, A50, H⟩ := H
    replace H : (if t172 = true then (some (t171, 0)) else (some (0, 5))) = some (r1, r2) := H
    have A5 := Aside0.mk A50
    clear A50
    by_cases c6 : t172 = true
    · subst c6
      have H1 : (some (t171, 0)) = some (r1, r2) := by rw [if_pos rfl] at H; exact H
      clear H
      have H := H1
      clear H1
      simp only [Option.some.injEq, Prod.mk.injEq] at H
      obtain ⟨rfl, rfl⟩ := H
      go_enter Try.func104, Try.ntmps104
      go_wp2_with (first | ((with_reducible refine gate_callee (f := 54) rfl ?_); refine goesL_ (some 10) rfl rfl Try.func54 (by kernel_rfl) rfl #[.slice A0 l0.length c0] rfl (by (try simp only [List.map_toArray, List.map_cons, List.map_nil]); first | done | rfl | (simp only [List.length_drop, List.length_take]; rfl)) ?_; (with_reducible refine (ledger_Check.calls k _ _ l0 t170 _ ?side1 ?side2 A3.out).mono ?_); (case side1 => repeat (first | exact HR0.out | (with_reducible refine Kd.C_alloc ?_ _) | (with_reducible refine Kd.C_drewN ?_ _) | (with_reducible refine Kd.C_drew ?_))); (case side2 => exact HC0.out); rintro e w7 ⟨rfl, hb⟩; refine ⟨_, rfl, ?_⟩; have n0_ := Aside0.mk (below_step (belN HB) hb); clear HB; have HB := n0_; clear n0_; (try clear hb); (try clear hb2); (try clear hk); (try clear hi)) | ((with_reducible refine gate_callee (f := 99) rfl ?_); refine goesL_ (some 17) rfl rfl Try.func99 (by kernel_rfl) rfl #[.slice A0 l0.length c0, .int .u64 a1, .func (.func 100) #[] #[]] rfl (by (try simp only [List.map_toArray, List.map_cons, List.map_nil]); first | done | rfl | (simp only [List.length_drop, List.length_take]; rfl)) ?_; (with_reducible refine (slices_BinarySearchFunc_uint64_at_ledger_order.calls k _ _ l0 a1  t171 true _ ?side1 ?side2 A5.out).mono ?_); (case side1 => repeat (first | exact (Kd.C_below HR0.out HB.out) | (with_reducible refine Kd.C_alloc ?_ _) | (with_reducible refine Kd.C_drewN ?_ _) | (with_reducible refine Kd.C_drew ?_))); (case side2 => exact HC0.out); rintro e w8 ⟨rfl, hb⟩; refine ⟨_, rfl, ?_⟩; have n0_ := Aside0.mk (below_step (belN HB) hb); clear HB; have HB := n0_; clear n0_; (try clear hb); (try clear hb2); (try clear hk); (try clear hi)))
      go_ret2
      exact ⟨by first | rfl | (simp [errW_none, errW_some] <;> rfl) | (simp [*, errW_none, errW_some] <;> rfl), by repeat (first | (with_reducible first | exact HB.out | apply below_alloc | apply pw_below_drewN | apply below_drew1) | exact HB.out)⟩
    · replace c6 := Bool.eq_false_iff.mpr c6
      subst c6
      have H1 : (some (0, 5)) = some (r1, r2) := by rw [if_neg (show ¬ (false = true) by decide)] at H; exact H
      clear H
      have H := H1
      clear H1
      simp only [Option.some.injEq, Prod.mk.injEq] at H
      obtain ⟨rfl, rfl⟩ := H
      go_enter Try.func104, Try.ntmps104
      go_wp2_with (first | ((with_reducible refine gate_callee (f := 54) rfl ?_); refine goesL_ (some 10) rfl rfl Try.func54 (by kernel_rfl) rfl #[.slice A0 l0.length c0] rfl (by (try simp only [List.map_toArray, List.map_cons, List.map_nil]); first | done | rfl | (simp only [List.length_drop, List.length_take]; rfl)) ?_; (with_reducible refine (ledger_Check.calls k _ _ l0 t170 _ ?side1 ?side2 A3.out).mono ?_); (case side1 => repeat (first | exact HR0.out | (with_reducible refine Kd.C_alloc ?_ _) | (with_reducible refine Kd.C_drewN ?_ _) | (with_reducible refine Kd.C_drew ?_))); (case side2 => exact HC0.out); rintro e w9 ⟨rfl, hb⟩; refine ⟨_, rfl, ?_⟩; have n0_ := Aside0.mk (below_step (belN HB) hb); clear HB; have HB := n0_; clear n0_; (try clear hb); (try clear hb2); (try clear hk); (try clear hi)) | ((with_reducible refine gate_callee (f := 99) rfl ?_); refine goesL_ (some 17) rfl rfl Try.func99 (by kernel_rfl) rfl #[.slice A0 l0.length c0, .int .u64 a1, .func (.func 100) #[] #[]] rfl (by (try simp only [List.map_toArray, List.map_cons, List.map_nil]); first | done | rfl | (simp only [List.length_drop, List.length_take]; rfl)) ?_; (with_reducible refine (slices_BinarySearchFunc_uint64_at_ledger_order.calls k _ _ l0 a1  t171 false _ ?side1 ?side2 A5.out).mono ?_); (case side1 => repeat (first | exact (Kd.C_below HR0.out HB.out) | (with_reducible refine Kd.C_alloc ?_ _) | (with_reducible refine Kd.C_drewN ?_ _) | (with_reducible refine Kd.C_drew ?_))); (case side2 => exact HC0.out); rintro e w10 ⟨rfl, hb⟩; refine ⟨_, rfl, ?_⟩; have n0_ := Aside0.mk (below_step (belN HB) hb); clear HB; have HB := n0_; clear n0_; (try clear hb); (try clear hb2); (try clear hk); (try clear hi)))
      go_ret2
      exact ⟨by first | rfl | (simp [errW_none, errW_some] <;> rfl) | (simp [*, errW_none, errW_some] <;> rfl), by repeat (first | (with_reducible first | exact HB.out | apply below_alloc | apply pw_below_drewN | apply below_drew1) | exact HB.out)⟩
  · rw [if_neg c4] at H
    have c4b0 : (t170 == 0) = false := beq_eq_false_iff_ne.mpr c4
    have c4b1 : (t170 != 0) = true := bne_iff_ne.mpr c4
    simp only [Option.some.injEq, Prod.mk.injEq] at H
    obtain ⟨rfl, rfl⟩ := H
    go_enter Try.func104, Try.ntmps104
    go_wp2_with (first | ((with_reducible refine gate_callee (f := 54) rfl ?_); refine goesL_ (some 10) rfl rfl Try.func54 (by kernel_rfl) rfl #[.slice A0 l0.length c0] rfl (by (try simp only [List.map_toArray, List.map_cons, List.map_nil]); first | done | rfl | (simp only [List.length_drop, List.length_take]; rfl)) ?_; (with_reducible refine (ledger_Check.calls k _ _ l0 t170 _ ?side1 ?side2 A3.out).mono ?_); (case side1 => repeat (first | exact HR0.out | (with_reducible refine Kd.C_alloc ?_ _) | (with_reducible refine Kd.C_drewN ?_ _) | (with_reducible refine Kd.C_drew ?_))); (case side2 => exact HC0.out); rintro e w11 ⟨rfl, hb⟩; refine ⟨_, rfl, ?_⟩; have n0_ := Aside0.mk (below_step (belN HB) hb); clear HB; have HB := n0_; clear n0_; (try clear hb); (try clear hb2); (try clear hk); (try clear hi)))
    go_ret2
    exact ⟨by first | rfl | (simp [errW_none, errW_some] <;> rfl) | (simp [*, errW_none, errW_some] <;> rfl), by repeat (first | (with_reducible first | exact HB.out | apply below_alloc | apply pw_below_drewN | apply below_drew1) | exact HB.out)⟩

/-! ### ledger_change: function 110 (by hand) -/
def ledger_change.g (k : Nat) (l : List S25) (id : Int) (how : S25 → Option (S25 × Int)) : Option (List S25 × Int) := (ledger_place.f k l id).bind fun p => if p.2 = 0 then (if 0 ≤ p.1 ∧ p.1 < (l.length : Int) then (how (rd_T25 l p.1)).bind fun q => if q.2 = 0 then (ledger_owns.f l).bind fun m => some (m.set p.1.toNat q.1, 0) else some ([], q.2) else none) else some ([], p.2)
/-- What a function handed to change does at a channel. -/
def HowAt (w : World) (n : FuncId) (caps : List Value) (how : S25 → Option (S25 × Int)) : Prop := ∀ (c : S25) (A1 : Option Addr) (c1 : Nat) (c2 : S25) (e2 : Int) (w1 : World), Below w.heap.size w w1 → Kd.C k44 w1 A1 c.f5.length c.f5 → c.f5.length ≤ c1 → how c = some (c2, e2) → Calls Try.prog n (#[.agg #[.int .u64 c.f0, .int .u64 c.f1, .int .u64 c.f2, .int .u64 c.f3, .int .u64 c.f4, .slice A1 c.f5.length c1, .bool c.f6]] ++ caps.toArray) w1 fun e w2 => ∃ A6 c6, e = .returned (.tuple #[.agg #[.int .u64 c2.f0, .int .u64 c2.f1, .int .u64 c2.f2, .int .u64 c2.f3, .int .u64 c2.f4, .slice A6 c2.f5.length c6, .bool c2.f6], .int .i64 e2]) ∧ (e2 = 0 → Ch w2 w1.heap.size c2 [.int .u64 c2.f0, .int .u64 c2.f1, .int .u64 c2.f2, .int .u64 c2.f3, .int .u64 c2.f4, .slice A6 c2.f5.length c6, .bool c2.f6]) ∧ Below w1.heap.size w1 w2
theorem Rows25.set {w w1 : World} {B i g : Nat} {l : List S25} {rows : List (List Value)} {c2 : S25} {cs : List Value} {cur : Array Value} (h : Rows25 w B l rows) (hn : Ch w B c2 cs) (hg : w.grownBy w1 (some g)) (hc : w.heap[g]? = some (.cells cur 25 (0, 0))) : Rows25 w1 B (l.set i c2) (rows.set i cs) := by
  intro j y hj
  by_cases e : j = i
  · subst e
    have hjl : j < l.length := by have := (List.getElem?_eq_some_iff.1 hj).1; rwa [List.length_set] at this
    rw [List.getElem?_set_self hjl] at hj
    injection hj with hj
    subst hj
    obtain ⟨c0, q1, _⟩ := h j _ (List.getElem?_eq_getElem hjl)
    exact ⟨cs, List.getElem?_set_self (List.getElem?_eq_some_iff.1 q1).1, hn.grown hg hc⟩
  · rw [List.getElem?_set_ne (by omega)] at hj
    obtain ⟨c0, q1, q2⟩ := h j y hj
    exact ⟨c0, by rw [List.getElem?_set_ne (by omega)]; exact q1, q2.grown hg hc⟩
set_option maxHeartbeats 16000000 in
set_option maxRecDepth 100000 in
theorem ledger_change.callsS_111 (k : Nat) (A0 : Option Addr) (c0 : Nat) (l : List S25) (id : Int) (p1 : Value) (p2 : Value) (p3 : Value) (how : S25 → Option (S25 × Int)) (r : List S25) (er : Int) (w : World) (hr0 : Kd.C k25 w A0 l.length l) (hc0 : l.length ≤ c0) (hw : HowAt w 111 [p1, p2, p3] how) (h : ledger_change.g k l id how = some (r, er)) :
    Calls Try.prog 110 #[.slice A0 l.length c0, .int .u64 id, .func (.func 111) #[] #[p1, p2, p3]] w fun e w' => ∃ v : Value, e = .returned (.tuple #[v, .int .i64 er]) ∧ Own25 w' w.heap.size v r ∧ Below w.heap.size w w' := by
  have HR0 := Aside0.mk hr0
  have HC0 := Aside0.mk hc0
  have HW := Aside0.mk hw
  clear hr0 hc0 hw
  have HB := Aside0.mk (Below.refl w.heap.size w)
  unfold ledger_change.g at h
  obtain ⟨⟨pi, pe⟩, h1, h_⟩ := Option.bind_eq_some_iff.mp h
  replace h := h_
  clear h_
  have HF1 := Aside0.mk h1
  clear h1
  dsimp only at h
  by_cases hpe : pe = 0
  case neg =>
    rw [if_neg hpe] at h
    have hpeb : (pe != 0) = true := bne_iff_ne.mpr hpe
    clear hpe
    injection h with h
    injection h with hh1 hh2
    subst hh1 hh2
    go_enter Try.func110, Try.ntmps110
    go_wp2_with (go_at_call 104; refine (ledger_place.calls k A0 c0 l id pi pe _ HR0.out HC0.out HF1.out).mono ?_; rintro e w1 ⟨rfl, hb⟩; clear HF1; replace HB := Aside0.mk (below_then HB.out HB.out.size hb);  clear hb)
    go_ret2
    exact ⟨_, rfl, Own25.nil _ _, HB.out⟩
  subst hpe
  rw [if_pos rfl] at h
  by_cases hpi : 0 ≤ pi ∧ pi < (l.length : Int)
  case neg => rw [if_neg hpi] at h; cases h
  rw [if_pos hpi] at h
  obtain ⟨hp0, hp1⟩ := hpi
  obtain ⟨i, rfl⟩ := Int.eq_ofNat_of_zero_le hp0
  have hi : i < l.length := by omega
  obtain ⟨ad, A5, c5, ea, hx0, hx1, hx2, hx3, hx4, hx5, hx6, hl5, hi5⟩ := at_T25 HR0.out (i : Int) (by omega) (by omega)
  subst ea
  obtain ⟨c, hc⟩ : ∃ c, c = rd_T25 l (i : Int) := ⟨_, rfl⟩
  rw [← hc] at h
  simp only [← hc, Int.toNat_natCast] at hx0 hx1 hx2 hx3 hx4 hx5 hx6 hl5 hi5
  have HL5 := Aside0.mk hl5
  have HI5 := Aside0.mk hi5
  clear hl5 hi5 hc
  obtain ⟨⟨c2, e2⟩, h1, h_⟩ := Option.bind_eq_some_iff.mp h
  replace h := h_
  clear h_
  have HF2 := Aside0.mk h1
  clear h1
  dsimp only at h
  by_cases he2 : e2 = 0
  case neg =>
    rw [if_neg he2] at h
    have he2b : (e2 != 0) = true := bne_iff_ne.mpr he2
    clear he2
    injection h with h
    injection h with hh1 hh2
    subst hh1 hh2
    go_enter Try.func110, Try.ntmps110
    go_wp2_with (first | (go_at_call 104; refine (ledger_place.calls k (some ad) c0 l id (i : Int) 0 _ HR0.out HC0.out HF1.out).mono ?_; rintro e w1 ⟨rfl, hb⟩; clear HF1; replace HB := Aside0.mk (below_then HB.out HB.out.size hb); replace hx0 := (hb.cell (World.block_lt_of_cell? w _ hx0)).trans hx0; replace hx1 := (hb.cell (World.block_lt_of_cell? w _ hx1)).trans hx1; replace hx2 := (hb.cell (World.block_lt_of_cell? w _ hx2)).trans hx2; replace hx3 := (hb.cell (World.block_lt_of_cell? w _ hx3)).trans hx3; replace hx4 := (hb.cell (World.block_lt_of_cell? w _ hx4)).trans hx4; replace hx5 := (hb.cell (World.block_lt_of_cell? w _ hx5)).trans hx5; replace hx6 := (hb.cell (World.block_lt_of_cell? w _ hx6)).trans hx6;  clear hb) | (go_at_call 111; refine (HW.out c A5 c5 c2 e2 _ HB.out (Kd.C_below HI5.out HB.out) HL5.out HF2.out).mono ?_; rintro e w2 ⟨A6, c6, rfl, ho, hb⟩; clear HF2; have HO := Aside0.mk (fun q_ => (ho q_).mono HB.out.size); replace HB := Aside0.mk (below_then HB.out HB.out.size hb); clear ho hb hx0 hx1 hx2 hx3 hx4 hx5 hx6))
    go_ret2
    exact ⟨_, rfl, Own25.nil _ _, HB.out.alloc HB.out.size _⟩
  subst he2
  rw [if_pos rfl] at h
  obtain ⟨m, h1, h_⟩ := Option.bind_eq_some_iff.mp h
  replace h := h_
  clear h_
  have HF3 := Aside0.mk h1
  clear h1
  have hm : m = l := owns_eq HF3.out
  subst hm
  injection h with h
  injection h with hh1 hh2
  subst hh1 hh2
  rw [Int.toNat_natCast]
  obtain ⟨x, hx⟩ : ∃ x, m[i]? = some x := ⟨_, List.getElem?_eq_getElem hi⟩
  have HX := Aside0.mk hx
  have HI := Aside0.mk hi
  clear hx hi
  go_enter Try.func110, Try.ntmps110
  go_wp2_with (first | (go_at_call 104; refine (ledger_place.calls k (some ad) c0 m id (i : Int) 0 _ HR0.out HC0.out HF1.out).mono ?_; rintro e w1 ⟨rfl, hb⟩; clear HF1; replace HB := Aside0.mk (below_then HB.out HB.out.size hb); replace hx0 := (hb.cell (World.block_lt_of_cell? w _ hx0)).trans hx0; replace hx1 := (hb.cell (World.block_lt_of_cell? w _ hx1)).trans hx1; replace hx2 := (hb.cell (World.block_lt_of_cell? w _ hx2)).trans hx2; replace hx3 := (hb.cell (World.block_lt_of_cell? w _ hx3)).trans hx3; replace hx4 := (hb.cell (World.block_lt_of_cell? w _ hx4)).trans hx4; replace hx5 := (hb.cell (World.block_lt_of_cell? w _ hx5)).trans hx5; replace hx6 := (hb.cell (World.block_lt_of_cell? w _ hx6)).trans hx6;  clear hb) | (go_at_call 111; refine (HW.out c A5 c5 c2 0 _ HB.out (Kd.C_below HI5.out HB.out) HL5.out HF2.out).mono ?_; rintro e w2 ⟨A6, c6, rfl, ho, hb⟩; clear HF2; have HO := Aside0.mk (fun q_ => (ho q_).mono HB.out.size); replace HB := Aside0.mk (below_then HB.out HB.out.size hb); clear ho hb hx0 hx1 hx2 hx3 hx4 hx5 hx6) | (go_at_call 102; go_loud (have hal := (Below.refl w2.heap.size w2).alloc (Nat.le_refl _) (.cells #[.int .u64 c2.f0, .int .u64 c2.f1, .int .u64 c2.f2, .int .u64 c2.f3, .int .u64 c2.f4, .slice A6 c2.f5.length c6, .bool c2.f6] 25); have HBL := Aside0.mk (HB.out.alloc HB.out.size (.cells #[.int .u64 c2.f0, .int .u64 c2.f1, .int .u64 c2.f2, .int .u64 c2.f3, .int .u64 c2.f4, .slice A6 c2.f5.length c6, .bool c2.f6] 25)); have HK := Aside0.mk (blk_new w2 (.cells #[.int .u64 c2.f0, .int .u64 c2.f1, .int .u64 c2.f2, .int .u64 c2.f3, .int .u64 c2.f4, .slice A6 c2.f5.length c6, .bool c2.f6] 25)); refine (ledger_owns.calls (some ad) c0 m m _ (Kd.C_below HR0.out HBL.out) HC0.out HF3.out).mono ?_; rintro e w3 ⟨v, rfl, ho, hb⟩; clear HF3; have HB3 := Aside0.mk (below_then HBL.out HBL.out.size hb); replace HK := Aside0.mk (blk_below HK.out hb); have HCH := Aside0.mk (((HO.out trivial).below hal).below hb); obtain ⟨rows, hR, hrl, hrx⟩ := ho; have HVB := Aside0.mk (fun k_ (hk : v.ownBlock = some k_) => Nat.lt_of_lt_of_le (show w2.heap.size < (w2.alloc (.cells #[.int .u64 c2.f0, .int .u64 c2.f1, .int .u64 c2.f2, .int .u64 c2.f3, .int .u64 c2.f4, .slice A6 c2.f5.length c6, .bool c2.f6] 25)).heap.size by simp) (Kd.R_base hR k_ hk)); have HR := Aside0.mk (Kd.R_lower hR HBL.out.size); have HRL := Aside0.mk hrl; have HRX : Aside0 (Rows25 w3 w.heap.size m rows) := ⟨fun j x hj => by obtain ⟨cs, q1, q2⟩ := hrx j x hj; exact ⟨cs, q1, q2.mono HBL.out.size⟩⟩; obtain ⟨g, cap, hv, hbg, hgl, cur, hblk⟩ := Kd.R_form HR.out (by have := HRL.out; have := HI.out; omega); subst hv; obtain ⟨cs, q1, q2⟩ := HRX.out i x HX.out; obtain ⟨A7, c7, hcs, _⟩ := q2; have hCr := (Kd.R_reads' HR.out).2.2; obtain ⟨ad2, ea2, hcell⟩ := hCr.2.2 (by have := HRL.out; have := HI.out; omega); injection ea2 with ea2; subst ea2; obtain ⟨c', r1, r2, r3⟩ := hcell i cs q1; have e1 : c' = cs := r2.1; subst e1; have HCC : Aside0 (∀ j u, c'[j]? = some u → w3.cell? ⟨g, i * 7 + j, none⟩ = some u) := ⟨fun j u hj => by have := r3 j u hj; rw [add_plain] at this; exact this⟩; subst hcs; rw [HRL.out]; have HGL := Aside0.mk hgl; have HBK := Aside0.mk hblk; obtain ⟨hz0, hz1, hz2, hz3, hz4, hz5, hz6, hz7, hz8, hz9, hz10, hz11, hz12, hz13⟩ := cz7_ HK.out; clear hal HB HBL hb hR hrl hrx hbg hgl hblk q1 hCr hcell r1 r2 r3 HO)) | ((with_reducible refine gate_ (.store 25 (.tmp 37) (.tmp 36)) rfl ?_); refine Kd.R_store (Kd.raw 7) (w0 := w) w.heap.size rfl rfl 25 (.tmp 37) (.tmp 36) rfl 25 (i : Int) 0 rows [.int .u64 c2.f0, .int .u64 c2.f1, .int .u64 c2.f2, .int .u64 c2.f3, .int .u64 c2.f4, .slice A6 c2.f5.length c6, .bool c2.f6] (.agg #[.int .u64 c2.f0, .int .u64 c2.f1, .int .u64 c2.f2, .int .u64 c2.f3, .int .u64 c2.f4, .slice A6 c2.f5.length c6, .bool c2.f6]) [.int .u64 c2.f0, .int .u64 c2.f1, .int .u64 c2.f2, .int .u64 c2.f3, .int .u64 c2.f4, .slice A6 c2.f5.length c6, .bool c2.f6] [.int .u64 x.f0, .int .u64 x.f1, .int .u64 x.f2, .int .u64 x.f3, .int .u64 x.f4, .slice A7 x.f5.length c7, .bool x.f6] (fun _ => True) (fun _ => False) rfl (by rw [Int.toNat_natCast]; rfl) rfl rfl (by kernel_rfl) (by intro q hq; simp at hq; rcases hq with rfl | rfl | rfl | rfl | rfl | rfl | rfl <;> rfl) HR.out (by omega) (by have := HRL.out; have := HI.out; omega) rfl (fun j u hj => by rw [Int.toNat_natCast]; exact HCC.out j u hj) (Nat.le_refl _) ⟨rfl, rfl, (by intro q hq; simp at hq; rcases hq with rfl | rfl | rfl | rfl | rfl | rfl | rfl <;> rfl)⟩ (fun _ hk => hk.elim) HB3.out ?_; intro w4 ho3 hb3 hg3; rw [Int.toNat_natCast, HRL.out] at ho3; have HR3 := Aside0.mk ho3; have HB4 := Aside0.mk hb3; have HH3 := Aside0.mk (Rows25.set (i := i) HRX.out HCH.out hg3 HBK.out); clear ho3 hb3 hg3))
  go_ret2
  exact ⟨_, rfl, ⟨_, HR3.out, by rw [List.length_set, List.length_set]; exact HRL.out, HH3.out⟩, HB4.out⟩
set_option maxHeartbeats 16000000 in
set_option maxRecDepth 100000 in
theorem ledger_change.callsS_114 (k : Nat) (A0 : Option Addr) (c0 : Nat) (l : List S25) (id : Int) (p1 : Value) (how : S25 → Option (S25 × Int)) (r : List S25) (er : Int) (w : World) (hr0 : Kd.C k25 w A0 l.length l) (hc0 : l.length ≤ c0) (hw : HowAt w 114 [p1] how) (h : ledger_change.g k l id how = some (r, er)) :
    Calls Try.prog 110 #[.slice A0 l.length c0, .int .u64 id, .func (.func 114) #[] #[p1]] w fun e w' => ∃ v : Value, e = .returned (.tuple #[v, .int .i64 er]) ∧ Own25 w' w.heap.size v r ∧ Below w.heap.size w w' := by
  have HR0 := Aside0.mk hr0
  have HC0 := Aside0.mk hc0
  have HW := Aside0.mk hw
  clear hr0 hc0 hw
  have HB := Aside0.mk (Below.refl w.heap.size w)
  unfold ledger_change.g at h
  obtain ⟨⟨pi, pe⟩, h1, h_⟩ := Option.bind_eq_some_iff.mp h
  replace h := h_
  clear h_
  have HF1 := Aside0.mk h1
  clear h1
  dsimp only at h
  by_cases hpe : pe = 0
  case neg =>
    rw [if_neg hpe] at h
    have hpeb : (pe != 0) = true := bne_iff_ne.mpr hpe
    clear hpe
    injection h with h
    injection h with hh1 hh2
    subst hh1 hh2
    go_enter Try.func110, Try.ntmps110
    go_wp2_with (go_at_call 104; refine (ledger_place.calls k A0 c0 l id pi pe _ HR0.out HC0.out HF1.out).mono ?_; rintro e w1 ⟨rfl, hb⟩; clear HF1; replace HB := Aside0.mk (below_then HB.out HB.out.size hb);  clear hb)
    go_ret2
    exact ⟨_, rfl, Own25.nil _ _, HB.out⟩
  subst hpe
  rw [if_pos rfl] at h
  by_cases hpi : 0 ≤ pi ∧ pi < (l.length : Int)
  case neg => rw [if_neg hpi] at h; cases h
  rw [if_pos hpi] at h
  obtain ⟨hp0, hp1⟩ := hpi
  obtain ⟨i, rfl⟩ := Int.eq_ofNat_of_zero_le hp0
  have hi : i < l.length := by omega
  obtain ⟨ad, A5, c5, ea, hx0, hx1, hx2, hx3, hx4, hx5, hx6, hl5, hi5⟩ := at_T25 HR0.out (i : Int) (by omega) (by omega)
  subst ea
  obtain ⟨c, hc⟩ : ∃ c, c = rd_T25 l (i : Int) := ⟨_, rfl⟩
  rw [← hc] at h
  simp only [← hc, Int.toNat_natCast] at hx0 hx1 hx2 hx3 hx4 hx5 hx6 hl5 hi5
  have HL5 := Aside0.mk hl5
  have HI5 := Aside0.mk hi5
  clear hl5 hi5 hc
  obtain ⟨⟨c2, e2⟩, h1, h_⟩ := Option.bind_eq_some_iff.mp h
  replace h := h_
  clear h_
  have HF2 := Aside0.mk h1
  clear h1
  dsimp only at h
  by_cases he2 : e2 = 0
  case neg =>
    rw [if_neg he2] at h
    have he2b : (e2 != 0) = true := bne_iff_ne.mpr he2
    clear he2
    injection h with h
    injection h with hh1 hh2
    subst hh1 hh2
    go_enter Try.func110, Try.ntmps110
    go_wp2_with (first | (go_at_call 104; refine (ledger_place.calls k (some ad) c0 l id (i : Int) 0 _ HR0.out HC0.out HF1.out).mono ?_; rintro e w1 ⟨rfl, hb⟩; clear HF1; replace HB := Aside0.mk (below_then HB.out HB.out.size hb); replace hx0 := (hb.cell (World.block_lt_of_cell? w _ hx0)).trans hx0; replace hx1 := (hb.cell (World.block_lt_of_cell? w _ hx1)).trans hx1; replace hx2 := (hb.cell (World.block_lt_of_cell? w _ hx2)).trans hx2; replace hx3 := (hb.cell (World.block_lt_of_cell? w _ hx3)).trans hx3; replace hx4 := (hb.cell (World.block_lt_of_cell? w _ hx4)).trans hx4; replace hx5 := (hb.cell (World.block_lt_of_cell? w _ hx5)).trans hx5; replace hx6 := (hb.cell (World.block_lt_of_cell? w _ hx6)).trans hx6;  clear hb) | (go_at_call 114; refine (HW.out c A5 c5 c2 e2 _ HB.out (Kd.C_below HI5.out HB.out) HL5.out HF2.out).mono ?_; rintro e w2 ⟨A6, c6, rfl, ho, hb⟩; clear HF2; have HO := Aside0.mk (fun q_ => (ho q_).mono HB.out.size); replace HB := Aside0.mk (below_then HB.out HB.out.size hb); clear ho hb hx0 hx1 hx2 hx3 hx4 hx5 hx6))
    go_ret2
    exact ⟨_, rfl, Own25.nil _ _, HB.out.alloc HB.out.size _⟩
  subst he2
  rw [if_pos rfl] at h
  obtain ⟨m, h1, h_⟩ := Option.bind_eq_some_iff.mp h
  replace h := h_
  clear h_
  have HF3 := Aside0.mk h1
  clear h1
  have hm : m = l := owns_eq HF3.out
  subst hm
  injection h with h
  injection h with hh1 hh2
  subst hh1 hh2
  rw [Int.toNat_natCast]
  obtain ⟨x, hx⟩ : ∃ x, m[i]? = some x := ⟨_, List.getElem?_eq_getElem hi⟩
  have HX := Aside0.mk hx
  have HI := Aside0.mk hi
  clear hx hi
  go_enter Try.func110, Try.ntmps110
  go_wp2_with (first | (go_at_call 104; refine (ledger_place.calls k (some ad) c0 m id (i : Int) 0 _ HR0.out HC0.out HF1.out).mono ?_; rintro e w1 ⟨rfl, hb⟩; clear HF1; replace HB := Aside0.mk (below_then HB.out HB.out.size hb); replace hx0 := (hb.cell (World.block_lt_of_cell? w _ hx0)).trans hx0; replace hx1 := (hb.cell (World.block_lt_of_cell? w _ hx1)).trans hx1; replace hx2 := (hb.cell (World.block_lt_of_cell? w _ hx2)).trans hx2; replace hx3 := (hb.cell (World.block_lt_of_cell? w _ hx3)).trans hx3; replace hx4 := (hb.cell (World.block_lt_of_cell? w _ hx4)).trans hx4; replace hx5 := (hb.cell (World.block_lt_of_cell? w _ hx5)).trans hx5; replace hx6 := (hb.cell (World.block_lt_of_cell? w _ hx6)).trans hx6;  clear hb) | (go_at_call 114; refine (HW.out c A5 c5 c2 0 _ HB.out (Kd.C_below HI5.out HB.out) HL5.out HF2.out).mono ?_; rintro e w2 ⟨A6, c6, rfl, ho, hb⟩; clear HF2; have HO := Aside0.mk (fun q_ => (ho q_).mono HB.out.size); replace HB := Aside0.mk (below_then HB.out HB.out.size hb); clear ho hb hx0 hx1 hx2 hx3 hx4 hx5 hx6) | (go_at_call 102; go_loud (have hal := (Below.refl w2.heap.size w2).alloc (Nat.le_refl _) (.cells #[.int .u64 c2.f0, .int .u64 c2.f1, .int .u64 c2.f2, .int .u64 c2.f3, .int .u64 c2.f4, .slice A6 c2.f5.length c6, .bool c2.f6] 25); have HBL := Aside0.mk (HB.out.alloc HB.out.size (.cells #[.int .u64 c2.f0, .int .u64 c2.f1, .int .u64 c2.f2, .int .u64 c2.f3, .int .u64 c2.f4, .slice A6 c2.f5.length c6, .bool c2.f6] 25)); have HK := Aside0.mk (blk_new w2 (.cells #[.int .u64 c2.f0, .int .u64 c2.f1, .int .u64 c2.f2, .int .u64 c2.f3, .int .u64 c2.f4, .slice A6 c2.f5.length c6, .bool c2.f6] 25)); refine (ledger_owns.calls (some ad) c0 m m _ (Kd.C_below HR0.out HBL.out) HC0.out HF3.out).mono ?_; rintro e w3 ⟨v, rfl, ho, hb⟩; clear HF3; have HB3 := Aside0.mk (below_then HBL.out HBL.out.size hb); replace HK := Aside0.mk (blk_below HK.out hb); have HCH := Aside0.mk (((HO.out trivial).below hal).below hb); obtain ⟨rows, hR, hrl, hrx⟩ := ho; have HVB := Aside0.mk (fun k_ (hk : v.ownBlock = some k_) => Nat.lt_of_lt_of_le (show w2.heap.size < (w2.alloc (.cells #[.int .u64 c2.f0, .int .u64 c2.f1, .int .u64 c2.f2, .int .u64 c2.f3, .int .u64 c2.f4, .slice A6 c2.f5.length c6, .bool c2.f6] 25)).heap.size by simp) (Kd.R_base hR k_ hk)); have HR := Aside0.mk (Kd.R_lower hR HBL.out.size); have HRL := Aside0.mk hrl; have HRX : Aside0 (Rows25 w3 w.heap.size m rows) := ⟨fun j x hj => by obtain ⟨cs, q1, q2⟩ := hrx j x hj; exact ⟨cs, q1, q2.mono HBL.out.size⟩⟩; obtain ⟨g, cap, hv, hbg, hgl, cur, hblk⟩ := Kd.R_form HR.out (by have := HRL.out; have := HI.out; omega); subst hv; obtain ⟨cs, q1, q2⟩ := HRX.out i x HX.out; obtain ⟨A7, c7, hcs, _⟩ := q2; have hCr := (Kd.R_reads' HR.out).2.2; obtain ⟨ad2, ea2, hcell⟩ := hCr.2.2 (by have := HRL.out; have := HI.out; omega); injection ea2 with ea2; subst ea2; obtain ⟨c', r1, r2, r3⟩ := hcell i cs q1; have e1 : c' = cs := r2.1; subst e1; have HCC : Aside0 (∀ j u, c'[j]? = some u → w3.cell? ⟨g, i * 7 + j, none⟩ = some u) := ⟨fun j u hj => by have := r3 j u hj; rw [add_plain] at this; exact this⟩; subst hcs; rw [HRL.out]; have HGL := Aside0.mk hgl; have HBK := Aside0.mk hblk; obtain ⟨hz0, hz1, hz2, hz3, hz4, hz5, hz6, hz7, hz8, hz9, hz10, hz11, hz12, hz13⟩ := cz7_ HK.out; clear hal HB HBL hb hR hrl hrx hbg hgl hblk q1 hCr hcell r1 r2 r3 HO)) | ((with_reducible refine gate_ (.store 25 (.tmp 37) (.tmp 36)) rfl ?_); refine Kd.R_store (Kd.raw 7) (w0 := w) w.heap.size rfl rfl 25 (.tmp 37) (.tmp 36) rfl 25 (i : Int) 0 rows [.int .u64 c2.f0, .int .u64 c2.f1, .int .u64 c2.f2, .int .u64 c2.f3, .int .u64 c2.f4, .slice A6 c2.f5.length c6, .bool c2.f6] (.agg #[.int .u64 c2.f0, .int .u64 c2.f1, .int .u64 c2.f2, .int .u64 c2.f3, .int .u64 c2.f4, .slice A6 c2.f5.length c6, .bool c2.f6]) [.int .u64 c2.f0, .int .u64 c2.f1, .int .u64 c2.f2, .int .u64 c2.f3, .int .u64 c2.f4, .slice A6 c2.f5.length c6, .bool c2.f6] [.int .u64 x.f0, .int .u64 x.f1, .int .u64 x.f2, .int .u64 x.f3, .int .u64 x.f4, .slice A7 x.f5.length c7, .bool x.f6] (fun _ => True) (fun _ => False) rfl (by rw [Int.toNat_natCast]; rfl) rfl rfl (by kernel_rfl) (by intro q hq; simp at hq; rcases hq with rfl | rfl | rfl | rfl | rfl | rfl | rfl <;> rfl) HR.out (by omega) (by have := HRL.out; have := HI.out; omega) rfl (fun j u hj => by rw [Int.toNat_natCast]; exact HCC.out j u hj) (Nat.le_refl _) ⟨rfl, rfl, (by intro q hq; simp at hq; rcases hq with rfl | rfl | rfl | rfl | rfl | rfl | rfl <;> rfl)⟩ (fun _ hk => hk.elim) HB3.out ?_; intro w4 ho3 hb3 hg3; rw [Int.toNat_natCast, HRL.out] at ho3; have HR3 := Aside0.mk ho3; have HB4 := Aside0.mk hb3; have HH3 := Aside0.mk (Rows25.set (i := i) HRX.out HCH.out hg3 HBK.out); clear ho3 hb3 hg3))
  go_ret2
  exact ⟨_, rfl, ⟨_, HR3.out, by rw [List.length_set, List.length_set]; exact HRL.out, HH3.out⟩, HB4.out⟩
set_option maxHeartbeats 16000000 in
set_option maxRecDepth 100000 in
theorem ledger_change.callsS_37 (k : Nat) (A0 : Option Addr) (c0 : Nat) (l : List S25) (id : Int) (how : S25 → Option (S25 × Int)) (r : List S25) (er : Int) (w : World) (hr0 : Kd.C k25 w A0 l.length l) (hc0 : l.length ≤ c0) (hw : HowAt w 37 [] how) (h : ledger_change.g k l id how = some (r, er)) :
    Calls Try.prog 110 #[.slice A0 l.length c0, .int .u64 id, .func (.func 37) #[] #[]] w fun e w' => ∃ v : Value, e = .returned (.tuple #[v, .int .i64 er]) ∧ Own25 w' w.heap.size v r ∧ Below w.heap.size w w' := by
  have HR0 := Aside0.mk hr0
  have HC0 := Aside0.mk hc0
  have HW := Aside0.mk hw
  clear hr0 hc0 hw
  have HB := Aside0.mk (Below.refl w.heap.size w)
  unfold ledger_change.g at h
  obtain ⟨⟨pi, pe⟩, h1, h_⟩ := Option.bind_eq_some_iff.mp h
  replace h := h_
  clear h_
  have HF1 := Aside0.mk h1
  clear h1
  dsimp only at h
  by_cases hpe : pe = 0
  case neg =>
    rw [if_neg hpe] at h
    have hpeb : (pe != 0) = true := bne_iff_ne.mpr hpe
    clear hpe
    injection h with h
    injection h with hh1 hh2
    subst hh1 hh2
    go_enter Try.func110, Try.ntmps110
    go_wp2_with (go_at_call 104; refine (ledger_place.calls k A0 c0 l id pi pe _ HR0.out HC0.out HF1.out).mono ?_; rintro e w1 ⟨rfl, hb⟩; clear HF1; replace HB := Aside0.mk (below_then HB.out HB.out.size hb);  clear hb)
    go_ret2
    exact ⟨_, rfl, Own25.nil _ _, HB.out⟩
  subst hpe
  rw [if_pos rfl] at h
  by_cases hpi : 0 ≤ pi ∧ pi < (l.length : Int)
  case neg => rw [if_neg hpi] at h; cases h
  rw [if_pos hpi] at h
  obtain ⟨hp0, hp1⟩ := hpi
  obtain ⟨i, rfl⟩ := Int.eq_ofNat_of_zero_le hp0
  have hi : i < l.length := by omega
  obtain ⟨ad, A5, c5, ea, hx0, hx1, hx2, hx3, hx4, hx5, hx6, hl5, hi5⟩ := at_T25 HR0.out (i : Int) (by omega) (by omega)
  subst ea
  obtain ⟨c, hc⟩ : ∃ c, c = rd_T25 l (i : Int) := ⟨_, rfl⟩
  rw [← hc] at h
  simp only [← hc, Int.toNat_natCast] at hx0 hx1 hx2 hx3 hx4 hx5 hx6 hl5 hi5
  have HL5 := Aside0.mk hl5
  have HI5 := Aside0.mk hi5
  clear hl5 hi5 hc
  obtain ⟨⟨c2, e2⟩, h1, h_⟩ := Option.bind_eq_some_iff.mp h
  replace h := h_
  clear h_
  have HF2 := Aside0.mk h1
  clear h1
  dsimp only at h
  by_cases he2 : e2 = 0
  case neg =>
    rw [if_neg he2] at h
    have he2b : (e2 != 0) = true := bne_iff_ne.mpr he2
    clear he2
    injection h with h
    injection h with hh1 hh2
    subst hh1 hh2
    go_enter Try.func110, Try.ntmps110
    go_wp2_with (first | (go_at_call 104; refine (ledger_place.calls k (some ad) c0 l id (i : Int) 0 _ HR0.out HC0.out HF1.out).mono ?_; rintro e w1 ⟨rfl, hb⟩; clear HF1; replace HB := Aside0.mk (below_then HB.out HB.out.size hb); replace hx0 := (hb.cell (World.block_lt_of_cell? w _ hx0)).trans hx0; replace hx1 := (hb.cell (World.block_lt_of_cell? w _ hx1)).trans hx1; replace hx2 := (hb.cell (World.block_lt_of_cell? w _ hx2)).trans hx2; replace hx3 := (hb.cell (World.block_lt_of_cell? w _ hx3)).trans hx3; replace hx4 := (hb.cell (World.block_lt_of_cell? w _ hx4)).trans hx4; replace hx5 := (hb.cell (World.block_lt_of_cell? w _ hx5)).trans hx5; replace hx6 := (hb.cell (World.block_lt_of_cell? w _ hx6)).trans hx6;  clear hb) | (go_at_call 37; refine (HW.out c A5 c5 c2 e2 _ HB.out (Kd.C_below HI5.out HB.out) HL5.out HF2.out).mono ?_; rintro e w2 ⟨A6, c6, rfl, ho, hb⟩; clear HF2; have HO := Aside0.mk (fun q_ => (ho q_).mono HB.out.size); replace HB := Aside0.mk (below_then HB.out HB.out.size hb); clear ho hb hx0 hx1 hx2 hx3 hx4 hx5 hx6))
    go_ret2
    exact ⟨_, rfl, Own25.nil _ _, HB.out.alloc HB.out.size _⟩
  subst he2
  rw [if_pos rfl] at h
  obtain ⟨m, h1, h_⟩ := Option.bind_eq_some_iff.mp h
  replace h := h_
  clear h_
  have HF3 := Aside0.mk h1
  clear h1
  have hm : m = l := owns_eq HF3.out
  subst hm
  injection h with h
  injection h with hh1 hh2
  subst hh1 hh2
  rw [Int.toNat_natCast]
  obtain ⟨x, hx⟩ : ∃ x, m[i]? = some x := ⟨_, List.getElem?_eq_getElem hi⟩
  have HX := Aside0.mk hx
  have HI := Aside0.mk hi
  clear hx hi
  go_enter Try.func110, Try.ntmps110
  go_wp2_with (first | (go_at_call 104; refine (ledger_place.calls k (some ad) c0 m id (i : Int) 0 _ HR0.out HC0.out HF1.out).mono ?_; rintro e w1 ⟨rfl, hb⟩; clear HF1; replace HB := Aside0.mk (below_then HB.out HB.out.size hb); replace hx0 := (hb.cell (World.block_lt_of_cell? w _ hx0)).trans hx0; replace hx1 := (hb.cell (World.block_lt_of_cell? w _ hx1)).trans hx1; replace hx2 := (hb.cell (World.block_lt_of_cell? w _ hx2)).trans hx2; replace hx3 := (hb.cell (World.block_lt_of_cell? w _ hx3)).trans hx3; replace hx4 := (hb.cell (World.block_lt_of_cell? w _ hx4)).trans hx4; replace hx5 := (hb.cell (World.block_lt_of_cell? w _ hx5)).trans hx5; replace hx6 := (hb.cell (World.block_lt_of_cell? w _ hx6)).trans hx6;  clear hb) | (go_at_call 37; refine (HW.out c A5 c5 c2 0 _ HB.out (Kd.C_below HI5.out HB.out) HL5.out HF2.out).mono ?_; rintro e w2 ⟨A6, c6, rfl, ho, hb⟩; clear HF2; have HO := Aside0.mk (fun q_ => (ho q_).mono HB.out.size); replace HB := Aside0.mk (below_then HB.out HB.out.size hb); clear ho hb hx0 hx1 hx2 hx3 hx4 hx5 hx6) | (go_at_call 102; go_loud (have hal := (Below.refl w2.heap.size w2).alloc (Nat.le_refl _) (.cells #[.int .u64 c2.f0, .int .u64 c2.f1, .int .u64 c2.f2, .int .u64 c2.f3, .int .u64 c2.f4, .slice A6 c2.f5.length c6, .bool c2.f6] 25); have HBL := Aside0.mk (HB.out.alloc HB.out.size (.cells #[.int .u64 c2.f0, .int .u64 c2.f1, .int .u64 c2.f2, .int .u64 c2.f3, .int .u64 c2.f4, .slice A6 c2.f5.length c6, .bool c2.f6] 25)); have HK := Aside0.mk (blk_new w2 (.cells #[.int .u64 c2.f0, .int .u64 c2.f1, .int .u64 c2.f2, .int .u64 c2.f3, .int .u64 c2.f4, .slice A6 c2.f5.length c6, .bool c2.f6] 25)); refine (ledger_owns.calls (some ad) c0 m m _ (Kd.C_below HR0.out HBL.out) HC0.out HF3.out).mono ?_; rintro e w3 ⟨v, rfl, ho, hb⟩; clear HF3; have HB3 := Aside0.mk (below_then HBL.out HBL.out.size hb); replace HK := Aside0.mk (blk_below HK.out hb); have HCH := Aside0.mk (((HO.out trivial).below hal).below hb); obtain ⟨rows, hR, hrl, hrx⟩ := ho; have HVB := Aside0.mk (fun k_ (hk : v.ownBlock = some k_) => Nat.lt_of_lt_of_le (show w2.heap.size < (w2.alloc (.cells #[.int .u64 c2.f0, .int .u64 c2.f1, .int .u64 c2.f2, .int .u64 c2.f3, .int .u64 c2.f4, .slice A6 c2.f5.length c6, .bool c2.f6] 25)).heap.size by simp) (Kd.R_base hR k_ hk)); have HR := Aside0.mk (Kd.R_lower hR HBL.out.size); have HRL := Aside0.mk hrl; have HRX : Aside0 (Rows25 w3 w.heap.size m rows) := ⟨fun j x hj => by obtain ⟨cs, q1, q2⟩ := hrx j x hj; exact ⟨cs, q1, q2.mono HBL.out.size⟩⟩; obtain ⟨g, cap, hv, hbg, hgl, cur, hblk⟩ := Kd.R_form HR.out (by have := HRL.out; have := HI.out; omega); subst hv; obtain ⟨cs, q1, q2⟩ := HRX.out i x HX.out; obtain ⟨A7, c7, hcs, _⟩ := q2; have hCr := (Kd.R_reads' HR.out).2.2; obtain ⟨ad2, ea2, hcell⟩ := hCr.2.2 (by have := HRL.out; have := HI.out; omega); injection ea2 with ea2; subst ea2; obtain ⟨c', r1, r2, r3⟩ := hcell i cs q1; have e1 : c' = cs := r2.1; subst e1; have HCC : Aside0 (∀ j u, c'[j]? = some u → w3.cell? ⟨g, i * 7 + j, none⟩ = some u) := ⟨fun j u hj => by have := r3 j u hj; rw [add_plain] at this; exact this⟩; subst hcs; rw [HRL.out]; have HGL := Aside0.mk hgl; have HBK := Aside0.mk hblk; obtain ⟨hz0, hz1, hz2, hz3, hz4, hz5, hz6, hz7, hz8, hz9, hz10, hz11, hz12, hz13⟩ := cz7_ HK.out; clear hal HB HBL hb hR hrl hrx hbg hgl hblk q1 hCr hcell r1 r2 r3 HO)) | ((with_reducible refine gate_ (.store 25 (.tmp 37) (.tmp 36)) rfl ?_); refine Kd.R_store (Kd.raw 7) (w0 := w) w.heap.size rfl rfl 25 (.tmp 37) (.tmp 36) rfl 25 (i : Int) 0 rows [.int .u64 c2.f0, .int .u64 c2.f1, .int .u64 c2.f2, .int .u64 c2.f3, .int .u64 c2.f4, .slice A6 c2.f5.length c6, .bool c2.f6] (.agg #[.int .u64 c2.f0, .int .u64 c2.f1, .int .u64 c2.f2, .int .u64 c2.f3, .int .u64 c2.f4, .slice A6 c2.f5.length c6, .bool c2.f6]) [.int .u64 c2.f0, .int .u64 c2.f1, .int .u64 c2.f2, .int .u64 c2.f3, .int .u64 c2.f4, .slice A6 c2.f5.length c6, .bool c2.f6] [.int .u64 x.f0, .int .u64 x.f1, .int .u64 x.f2, .int .u64 x.f3, .int .u64 x.f4, .slice A7 x.f5.length c7, .bool x.f6] (fun _ => True) (fun _ => False) rfl (by rw [Int.toNat_natCast]; rfl) rfl rfl (by kernel_rfl) (by intro q hq; simp at hq; rcases hq with rfl | rfl | rfl | rfl | rfl | rfl | rfl <;> rfl) HR.out (by omega) (by have := HRL.out; have := HI.out; omega) rfl (fun j u hj => by rw [Int.toNat_natCast]; exact HCC.out j u hj) (Nat.le_refl _) ⟨rfl, rfl, (by intro q hq; simp at hq; rcases hq with rfl | rfl | rfl | rfl | rfl | rfl | rfl <;> rfl)⟩ (fun _ hk => hk.elim) HB3.out ?_; intro w4 ho3 hb3 hg3; rw [Int.toNat_natCast, HRL.out] at ho3; have HR3 := Aside0.mk ho3; have HB4 := Aside0.mk hb3; have HH3 := Aside0.mk (Rows25.set (i := i) HRX.out HCH.out hg3 HBK.out); clear ho3 hb3 hg3))
  go_ret2
  exact ⟨_, rfl, ⟨_, HR3.out, by rw [List.length_set, List.length_set]; exact HRL.out, HH3.out⟩, HB4.out⟩
theorem ledger_change.mono_g (l : List S25) (id : Int) (h1 h2 : S25 → Option (S25 × Int)) (hm : ∀ c, LeO (h1 c) (h2 c)) (k : Nat) : LeO (ledger_change.g k l id h1) (ledger_change.g (k + 1) l id h2) := by
  unfold ledger_change.g
  repeat' first
    | (with_reducible exact LeO.refl _)
    | exact hm _
    | apply ledger_place.mono
    | (with_reducible refine LeO.ite ?_ ?_)
    | (with_reducible refine LeO.bind ?_ (fun _ => ?_))

/-! ### ledger_Hold: function 57 (by hand) -/
def ledger_Hold.how (k : Nat) (l : List S25) (hold n : Int) (c : S25) : Option (S25 × Int) := (ledger_Where.f k l hold).bind fun q => if q.2 = 0 then some (c, 6) else (channel_Hold.f k c.f0 c.f1 c.f2 c.f3 c.f4 c.f5 c.f6 hold n).bind fun r => some (⟨r.1, r.2.1, r.2.2.1, r.2.2.2.1, r.2.2.2.2.1, r.2.2.2.2.2.1, r.2.2.2.2.2.2.1⟩, r.2.2.2.2.2.2.2)
set_option maxHeartbeats 16000000 in
set_option maxRecDepth 100000 in
theorem ledger_Hold.hows (k : Nat) (A0 : Option Addr) (c0 : Nat) (l : List S25) (hold n : Int) (b1 b2 b3 : Nat) (w : World) (hr0 : Kd.C k25 w A0 l.length l) (hc0 : l.length ≤ c0) (hb1 : w.cell? ⟨b1, 0, none⟩ = some (.slice A0 l.length c0)) (hb2 : w.cell? ⟨b2, 0, none⟩ = some (.int .u64 hold)) (hb3 : w.cell? ⟨b3, 0, none⟩ = some (.int .u64 n)) :
    HowAt w 111 [.pointer (some ⟨b1, 0, none⟩), .pointer (some ⟨b2, 0, none⟩), .pointer (some ⟨b3, 0, none⟩)] (ledger_Hold.how k l hold n) := by
  intro c A1 c1 c2 e2 w1 hb hC hl h
  have HR0 := Aside0.mk (Kd.C_below hr0 hb)
  have HC0 := Aside0.mk hc0
  have HI5 := Aside0.mk hC
  have HL5 := Aside0.mk hl
  replace hb1 := (hb.cell (World.block_lt_of_cell? w _ hb1)).trans hb1
  replace hb2 := (hb.cell (World.block_lt_of_cell? w _ hb2)).trans hb2
  replace hb3 := (hb.cell (World.block_lt_of_cell? w _ hb3)).trans hb3
  have hlt1 : b1 < w1.heap.size := World.block_lt_of_cell? w1 _ hb1
  have hlt2 : b2 < w1.heap.size := World.block_lt_of_cell? w1 _ hb2
  have hlt3 : b3 < w1.heap.size := World.block_lt_of_cell? w1 _ hb3
  clear hr0 hc0 hC hl hb
  unfold ledger_Hold.how at h
  obtain ⟨⟨q1, q2⟩, h1, h_⟩ := Option.bind_eq_some_iff.mp h
  replace h := h_
  clear h_
  have HF1 := Aside0.mk h1
  clear h1
  dsimp only at h
  show Calls Try.prog 111 #[.agg #[.int .u64 c.f0, .int .u64 c.f1, .int .u64 c.f2, .int .u64 c.f3, .int .u64 c.f4, .slice A1 c.f5.length c1, .bool c.f6], .pointer (some ⟨b1, 0, none⟩), .pointer (some ⟨b2, 0, none⟩), .pointer (some ⟨b3, 0, none⟩)] w1 _
  by_cases hq : q2 = 0
  · subst hq
    rw [if_pos rfl] at h
    injection h with h
    injection h with hh1 hh2
    subst hh1 hh2
    go_enter Try.func111, Try.ntmps111
    go_wp2_with (go_at_call 50; have hal := (Below.refl w1.heap.size w1).alloc (Nat.le_refl _) (.cells #[.int .u64 c.f0, .int .u64 c.f1, .int .u64 c.f2, .int .u64 c.f3, .int .u64 c.f4, .slice A1 c.f5.length c1, .bool c.f6] 25); have hal2 := below_then hal (show w1.heap.size ≤ (w1.alloc (.cells #[.int .u64 c.f0, .int .u64 c.f1, .int .u64 c.f2, .int .u64 c.f3, .int .u64 c.f4, .slice A1 c.f5.length c1, .bool c.f6] 25)).heap.size by simp) ((Below.refl (w1.alloc (.cells #[.int .u64 c.f0, .int .u64 c.f1, .int .u64 c.f2, .int .u64 c.f3, .int .u64 c.f4, .slice A1 c.f5.length c1, .bool c.f6] 25)).heap.size (w1.alloc (.cells #[.int .u64 c.f0, .int .u64 c.f1, .int .u64 c.f2, .int .u64 c.f3, .int .u64 c.f4, .slice A1 c.f5.length c1, .bool c.f6] 25))).alloc (Nat.le_refl _) (.cells #[.int .u64 0, .int .u64 0, .int .u64 0, .int .u64 0, .int .u64 0, .slice none 0 0, .bool false] 25)); have HB := Aside0.mk hal2; have HK := Aside0.mk (blk_below (blk_new w1 (.cells #[.int .u64 c.f0, .int .u64 c.f1, .int .u64 c.f2, .int .u64 c.f3, .int .u64 c.f4, .slice A1 c.f5.length c1, .bool c.f6] 25)) ((Below.refl (w1.alloc (.cells #[.int .u64 c.f0, .int .u64 c.f1, .int .u64 c.f2, .int .u64 c.f3, .int .u64 c.f4, .slice A1 c.f5.length c1, .bool c.f6] 25)).heap.size (w1.alloc (.cells #[.int .u64 c.f0, .int .u64 c.f1, .int .u64 c.f2, .int .u64 c.f3, .int .u64 c.f4, .slice A1 c.f5.length c1, .bool c.f6] 25))).alloc (Nat.le_refl _) (.cells #[.int .u64 0, .int .u64 0, .int .u64 0, .int .u64 0, .int .u64 0, .slice none 0 0, .bool false] 25))); have HK5 := Aside0.mk (blk_new2 w1 (.cells #[.int .u64 c.f0, .int .u64 c.f1, .int .u64 c.f2, .int .u64 c.f3, .int .u64 c.f4, .slice A1 c.f5.length c1, .bool c.f6] 25) (.cells #[.int .u64 0, .int .u64 0, .int .u64 0, .int .u64 0, .int .u64 0, .slice none 0 0, .bool false] 25)); refine (ledger_Where.calls k A0 c0 l hold q1 0 _ (Kd.C_below HR0.out HB.out) HC0.out HF1.out).mono ?_; rintro e w2 ⟨rfl, hb⟩; clear HF1; replace HB := Aside0.mk (below_then HB.out HB.out.size hb); replace HK := Aside0.mk (blk_below HK.out hb); replace HK5 := Aside0.mk (blk_below HK5.out hb); replace hb2 := (HB.out.cell hlt2).trans hb2; replace hb3 := (HB.out.cell hlt3).trans hb3; obtain ⟨hz0, hz1, hz2, hz3, hz4, hz5, hz6, hz7, hz8, hz9, hz10, hz11, hz12, hz13⟩ := cz7_ HK.out; obtain ⟨hy0, hy1, hy2, hy3, hy4, hy5, hy6, hy7, hy8, hy9, hy10, hy11, hy12, hy13⟩ := cz7_ HK5.out; clear hal hal2 hb)
    refine bodyPost_ret (results_ct rfl _ _ (w1.heap.size + 1) 25 #[.int .u64 c.f0, .int .u64 c.f1, .int .u64 c.f2, .int .u64 c.f3, .int .u64 c.f4, .slice A1 c.f5.length c1, .bool c.f6] (0, 0) _ rfl (put7_self (w := w2) (c := c) (v := .slice A1 c.f5.length c1) HK5.out) Try.underlying25 rfl (by kernel_rfl)) rfl ?_
    exact ⟨_, _, rfl, fun h => absurd h (by decide), put7_below (c := c) (v := .slice A1 c.f5.length c1) HB.out (Nat.le_succ _)⟩
  · rw [if_neg hq] at h
    have hqb : (q2 == 0) = false := beq_eq_false_iff_ne.mpr hq
    clear hq
    obtain ⟨⟨r1, r2, r3, r4, r5, r6, r7, r8⟩, h1, h_⟩ := Option.bind_eq_some_iff.mp h
    replace h := h_
    clear h_
    have HF2 := Aside0.mk h1
    clear h1
    injection h with h
    injection h with hh1 hh2
    dsimp only at hh1 hh2
    subst hh1 hh2
    go_enter Try.func111, Try.ntmps111
    go_wp2_with (first | (go_at_call 50; have hal := (Below.refl w1.heap.size w1).alloc (Nat.le_refl _) (.cells #[.int .u64 c.f0, .int .u64 c.f1, .int .u64 c.f2, .int .u64 c.f3, .int .u64 c.f4, .slice A1 c.f5.length c1, .bool c.f6] 25); have hal2 := below_then hal (show w1.heap.size ≤ (w1.alloc (.cells #[.int .u64 c.f0, .int .u64 c.f1, .int .u64 c.f2, .int .u64 c.f3, .int .u64 c.f4, .slice A1 c.f5.length c1, .bool c.f6] 25)).heap.size by simp) ((Below.refl (w1.alloc (.cells #[.int .u64 c.f0, .int .u64 c.f1, .int .u64 c.f2, .int .u64 c.f3, .int .u64 c.f4, .slice A1 c.f5.length c1, .bool c.f6] 25)).heap.size (w1.alloc (.cells #[.int .u64 c.f0, .int .u64 c.f1, .int .u64 c.f2, .int .u64 c.f3, .int .u64 c.f4, .slice A1 c.f5.length c1, .bool c.f6] 25))).alloc (Nat.le_refl _) (.cells #[.int .u64 0, .int .u64 0, .int .u64 0, .int .u64 0, .int .u64 0, .slice none 0 0, .bool false] 25)); have HB := Aside0.mk hal2; have HK := Aside0.mk (blk_below (blk_new w1 (.cells #[.int .u64 c.f0, .int .u64 c.f1, .int .u64 c.f2, .int .u64 c.f3, .int .u64 c.f4, .slice A1 c.f5.length c1, .bool c.f6] 25)) ((Below.refl (w1.alloc (.cells #[.int .u64 c.f0, .int .u64 c.f1, .int .u64 c.f2, .int .u64 c.f3, .int .u64 c.f4, .slice A1 c.f5.length c1, .bool c.f6] 25)).heap.size (w1.alloc (.cells #[.int .u64 c.f0, .int .u64 c.f1, .int .u64 c.f2, .int .u64 c.f3, .int .u64 c.f4, .slice A1 c.f5.length c1, .bool c.f6] 25))).alloc (Nat.le_refl _) (.cells #[.int .u64 0, .int .u64 0, .int .u64 0, .int .u64 0, .int .u64 0, .slice none 0 0, .bool false] 25))); have HK5 := Aside0.mk (blk_new2 w1 (.cells #[.int .u64 c.f0, .int .u64 c.f1, .int .u64 c.f2, .int .u64 c.f3, .int .u64 c.f4, .slice A1 c.f5.length c1, .bool c.f6] 25) (.cells #[.int .u64 0, .int .u64 0, .int .u64 0, .int .u64 0, .int .u64 0, .slice none 0 0, .bool false] 25)); refine (ledger_Where.calls k A0 c0 l hold q1 q2 _ (Kd.C_below HR0.out HB.out) HC0.out HF1.out).mono ?_; rintro e w2 ⟨rfl, hb⟩; clear HF1; replace HB := Aside0.mk (below_then HB.out HB.out.size hb); replace HK := Aside0.mk (blk_below HK.out hb); replace HK5 := Aside0.mk (blk_below HK5.out hb); replace hb2 := (HB.out.cell hlt2).trans hb2; replace hb3 := (HB.out.cell hlt3).trans hb3; obtain ⟨hz0, hz1, hz2, hz3, hz4, hz5, hz6, hz7, hz8, hz9, hz10, hz11, hz12, hz13⟩ := cz7_ HK.out; obtain ⟨hy0, hy1, hy2, hy3, hy4, hy5, hy6, hy7, hy8, hy9, hy10, hy11, hy12, hy13⟩ := cz7_ HK5.out; clear hal hal2 hb) | (go_at_call 23; refine (channel_Hold.calls k c.f0 c.f1 c.f2 c.f3 c.f4 A1 c1 c.f5 c.f6 hold n r1 r2 r3 r4 r5 r6 r7 r8 _ (Kd.C_below HI5.out HB.out) HL5.out HF2.out).mono ?_; rintro e w3 ⟨v5, rfl, ho, hb⟩; clear HF2; obtain ⟨An, cn, hv⟩ := Kd.R_slice ho; subst hv; have HR := Aside0.mk (Kd.R_bound ho); have HS := Aside0.mk (blk_lt HK5.out); clear hz0 hz1 hz2 hz3 hz4 hz5 hz6 hz7 hz8 hz9 hz10 hz11 hz12 hz13 hy0 hy1 hy2 hy3 hy4 hy5 hy6 hy7 hy8 hy9 hy10 hy11 hy12 hy13; replace HB := Aside0.mk (below_then HB.out HB.out.size hb); replace HK := Aside0.mk (blk_below HK.out hb); replace HK5 := Aside0.mk (blk_below HK5.out hb); obtain ⟨hz0, hz1, hz2, hz3, hz4, hz5, hz6, hz7, hz8, hz9, hz10, hz11, hz12, hz13⟩ := cz7_ HK.out; obtain ⟨hy0, hy1, hy2, hy3, hy4, hy5, hy6, hy7, hy8, hy9, hy10, hy11, hy12, hy13⟩ := cz7_ HK5.out; clear ho hb))
    have hR7 := put7_R (w := w3) (g := w1.heap.size + 1) (c := (⟨r1, r2, r3, r4, r5, r6, r7⟩ : S25)) (v := .slice An r6.length cn) HR.out (fun k_ hk => by have := HS.out; omega)
    refine bodyPost_ret (results_ct rfl _ _ (w1.heap.size + 1) 25 #[.int .u64 r1, .int .u64 r2, .int .u64 r3, .int .u64 r4, .int .u64 r5, .slice An r6.length cn, .bool r7] (0, 0) _ rfl (put7_self (w := w3) (c := (⟨r1, r2, r3, r4, r5, r6, r7⟩ : S25)) (v := .slice An r6.length cn) HK5.out) Try.underlying25 rfl (by kernel_rfl)) rfl ?_
    exact ⟨_, _, rfl, fun _ => ⟨An, cn, rfl, (Kd.R_reads' hR7).2.1, (Kd.R_reads' hR7).2.2, row44_of_R hR7 (by have := HS.out; omega)⟩, put7_below (c := (⟨r1, r2, r3, r4, r5, r6, r7⟩ : S25)) (v := .slice An r6.length cn) HB.out (Nat.le_succ _)⟩
/-- Three boxes at once. -/
theorem boxes3 (w : World) (v1 v2 v3 : Value) (t1 t2 t3 : TypeId) : Below w.heap.size w (((w.alloc (.cells #[v1] t1)).alloc (.cells #[v2] t2)).alloc (.cells #[v3] t3)) ∧
    (((w.alloc (.cells #[v1] t1)).alloc (.cells #[v2] t2)).alloc (.cells #[v3] t3)).cell? ⟨w.heap.size, 0, none⟩ = some v1 ∧
    (((w.alloc (.cells #[v1] t1)).alloc (.cells #[v2] t2)).alloc (.cells #[v3] t3)).cell? ⟨w.heap.size + 1, 0, none⟩ = some v2 ∧
    (((w.alloc (.cells #[v1] t1)).alloc (.cells #[v2] t2)).alloc (.cells #[v3] t3)).cell? ⟨w.heap.size + 2, 0, none⟩ = some v3 := by
  have b1 := (Below.refl w.heap.size w).alloc (Nat.le_refl _) (.cells #[v1] t1)
  have b2 := b1.alloc b1.size (.cells #[v2] t2)
  have b3 := b2.alloc b2.size (.cells #[v3] t3)
  have s1 : (w.alloc (.cells #[v1] t1)).heap.size = w.heap.size + 1 := by simp
  have s2 : ((w.alloc (.cells #[v1] t1)).alloc (.cells #[v2] t2)).heap.size = w.heap.size + 2 := by simp
  have k1 := blk_new w (.cells #[v1] t1)
  have k1' := blk_below k1 ((Below.refl _ (w.alloc (.cells #[v1] t1))).alloc (Nat.le_refl _) (.cells #[v2] t2))
  have c2 := (Below.refl _ ((w.alloc (.cells #[v1] t1)).alloc (.cells #[v2] t2))).alloc (Nat.le_refl _) (.cells #[v3] t3)
  have k1'' := blk_below k1' c2
  have k2 := blk_new2 w (.cells #[v1] t1) (.cells #[v2] t2)
  have k2' := blk_below k2 c2
  have k3 := blk_new ((w.alloc (.cells #[v1] t1)).alloc (.cells #[v2] t2)) (.cells #[v3] t3)
  rw [s2] at k3
  exact ⟨b3, (blk_cell k1'' 0).trans rfl, (blk_cell k2' 0).trans rfl, (blk_cell k3 0).trans rfl⟩
def ledger_Hold.g (k : Nat) (l : List S25) (id hold n : Int) : Option (List S25 × Int) := ledger_change.g k l id (ledger_Hold.how k l hold n)
set_option maxHeartbeats 16000000 in
set_option maxRecDepth 100000 in
theorem ledger_Hold.callsS (k : Nat) (A0 : Option Addr) (c0 : Nat) (l : List S25) (id hold n : Int) (r : List S25) (er : Int) (w : World) (hr0 : Kd.C k25 w A0 l.length l) (hc0 : l.length ≤ c0) (h : ledger_Hold.g k l id hold n = some (r, er)) :
    Calls Try.prog 57 #[.slice A0 l.length c0, .int .u64 id, .int .u64 hold, .int .u64 n] w fun e w' => ∃ v : Value, e = .returned (.tuple #[v, .int .i64 er]) ∧ Own25 w' w.heap.size v r ∧ Below w.heap.size w w' := by
  have HF := Aside0.mk h
  have HR0 := Aside0.mk hr0
  have HC0 := Aside0.mk hc0
  have HX := Aside0.mk (boxes3 w (.slice A0 l.length c0) (.int .u64 hold) (.int .u64 n) 47 22 22)
  clear hr0 hc0 h
  go_enter Try.func57, Try.ntmps57
  go_wp2_with (go_at_call 110; go_loud (refine (ledger_change.callsS_111 k A0 c0 l id (.pointer (some ⟨w.heap.size, 0, none⟩)) (.pointer (some ⟨w.heap.size + 1, 0, none⟩)) (.pointer (some ⟨w.heap.size + 2, 0, none⟩)) (ledger_Hold.how k l hold n) r er _ (Kd.C_below HR0.out HX.out.1) HC0.out (ledger_Hold.hows k A0 c0 l hold n w.heap.size (w.heap.size + 1) (w.heap.size + 2) _ (Kd.C_below HR0.out HX.out.1) HC0.out HX.out.2.1 HX.out.2.2.1 HX.out.2.2.2) HF.out).mono ?_; rintro e w1 ⟨v, rfl, ho, hb⟩; have HB := Aside0.mk (below_then HX.out.1 HX.out.1.size hb); have HO := Aside0.mk (ho.lower HX.out.1.size); clear HX ho hb))
  go_ret2
  exact ⟨_, rfl, HO.out, HB.out⟩
theorem ledger_Hold.mono_how (l : List S25) (hold n : Int) (c : S25) (k : Nat) : LeO (ledger_Hold.how k l hold n c) (ledger_Hold.how (k + 1) l hold n c) := by
  unfold ledger_Hold.how
  repeat' first
    | (with_reducible exact LeO.refl _)
    | apply ledger_Where.mono
    | apply channel_Hold.mono
    | (with_reducible refine LeO.ite ?_ ?_)
    | (with_reducible refine LeO.bind ?_ (fun _ => ?_))
theorem ledger_Hold.mono_g (l : List S25) (id hold n : Int) (k : Nat) : LeO (ledger_Hold.g k l id hold n) (ledger_Hold.g (k + 1) l id hold n) := ledger_change.mono_g l id _ _ (fun c => ledger_Hold.mono_how l hold n c k) k

/-! ### channel_Check: function 33 -/
def channel_Check.f (k : Nat) (a0_0 : Int) (a0_1 : Int) (a0_2 : Int) (a0_3 : Int) (a0_4 : Int) (l0_5 : List (S44)) (a0_6 : Bool) : Option (Int) := (channel_sums.f k a0_0 a0_1 a0_2 a0_3 a0_4 l0_5 a0_6).bind fun bt174 => (some bt174.2.2)
theorem channel_Check.mono : ∀ a0 a1 a2 a3 a4 a5 a6 k, LeO (channel_Check.f k a0 a1 a2 a3 a4 a5 a6) (channel_Check.f (k + 1) a0 a1 a2 a3 a4 a5 a6) := by
  intro a0 a1 a2 a3 a4 a5 a6 k
  unfold channel_Check.f
  repeat' first
      | (with_reducible exact channel_sums.mono _ _ _ _ _ _ _ _)
      | (with_reducible exact LeO.refl _)
      | (with_reducible exact LeO.none _)
      | (with_reducible refine LeO.ite ?_ ?_)
      | (with_reducible refine LeO.bind ?_ (fun _ => ?_))
      | exact channel_sums.mono _ _ _ _ _ _ _ _
      | exact LeO.none _
      | refine LeO.ite ?_ ?_
      | refine LeO.bind ?_ (fun _ => ?_)
set_option maxHeartbeats 8000000 in
set_option maxRecDepth 100000 in
theorem channel_Check.calls (k : Nat) (a0_0 : Int) (a0_1 : Int) (a0_2 : Int) (a0_3 : Int) (a0_4 : Int) (A0_5 : Option Addr) (c0_5 : Nat) (l0_5 : List (S44)) (a0_6 : Bool) (r : Int) (w : World) (hr0_5 : Kd.C k44 w A0_5 l0_5.length l0_5) (hc0_5 : l0_5.length ≤ c0_5) (h : channel_Check.f k a0_0 a0_1 a0_2 a0_3 a0_4 l0_5 a0_6 = some r) :
    Calls Try.prog 33 #[.agg #[.int .u64 a0_0, .int .u64 a0_1, .int .u64 a0_2, .int .u64 a0_3, .int .u64 a0_4, .slice A0_5 l0_5.length c0_5, .bool a0_6]] w fun e w' => e = .returned (.int .i64 r) ∧ Below w.heap.size w w' := by
  have hu25 := Try.underlying25
  have HR0_5 := Aside0.mk hr0_5
  have HC0_5 := Aside0.mk hc0_5
  clear hr0_5 hc0_5
  have HB := Aside0.mk (Below.refl w.heap.size w)
  have H : ((channel_sums.f k a0_0 a0_1 a0_2 a0_3 a0_4 l0_5 a0_6).bind fun bt174 => (some bt174.2.2)) = some r := h
  clear h
  replace H := Option.bind_eq_some_iff.mp H
  obtain ⟨⟨t174, t175, t176⟩, A20, H⟩ := H
  replace H : (some t176) = some r := H
  have A2 := Aside0.mk A20
  clear A20
  obtain rfl := Option.some.inj H
  go_enter Try.func33, Try.ntmps33
  go_wp2_with (first | ((with_reducible refine gate_dst (N := 1) rfl ?_); refine box_event ?hg (N := 1) ?hd (cs := #[.int .u64 a0_0, .int .u64 a0_1, .int .u64 a0_2, .int .u64 a0_3, .int .u64 a0_4, .slice A0_5 l0_5.length c0_5, .bool a0_6]) (t := 25) ?hr ?_; (case hd => rfl); (case hg => rfl); (case hr => first | (go_simp; done) | (go_simp; rfl)); intro gb173 hg w3 hbox hb; have n0_ := Aside0.mk (below_step (belN HB) hb); have n1_ := Aside0.mk (hbox); have n2_ := Aside0.mk ((by rw [hg]; exact (below_size (belN HB)) : w.heap.size ≤ gb173)); have n3_ := Aside0.mk ((by rw [hg]; exact (below_size (belN HB)) : w.heap.size ≤ gb173)); clear HB; have HB := n0_; have BK173 := n1_; have GW173 := n2_; have GE173 := n3_; clear n0_ n1_ n2_ n3_; clear hb hbox hg; obtain ⟨hcz4_0, hcz4_1, hcz4_2, hcz4_3, hcz4_4, hcz4_5, hcz4_6, hfz4_0, hfz4_1, hfz4_2, hfz4_3, hfz4_4, hfz4_5, hfz4_6⟩ := cz7_ (w := w3) BK173.out) | ((with_reducible refine gate_callee (f := 83) rfl ?_); refine goesL_ (some 8) rfl rfl Try.func83 (by kernel_rfl) rfl #[.agg #[.int .u64 a0_0, .int .u64 a0_1, .int .u64 a0_2, .int .u64 a0_3, .int .u64 a0_4, .slice A0_5 l0_5.length c0_5, .bool a0_6]] rfl (by (try simp only [List.map_toArray, List.map_cons, List.map_nil]); first | done | rfl | (simp only [List.length_drop, List.length_take]; rfl)) ?_; (with_reducible refine (channel_sums.calls k a0_0 a0_1 a0_2 a0_3 a0_4 _ _ l0_5 a0_6 t174 t175 t176 _ ?side1 ?side2 A2.out).mono ?_); (case side1 => repeat (first | exact (Kd.C_below HR0_5.out HB.out) | (with_reducible refine Kd.C_alloc ?_ _) | (with_reducible refine Kd.C_drewN ?_ _) | (with_reducible refine Kd.C_drew ?_))); (case side2 => exact HC0_5.out); rintro e w5 ⟨rfl, hb⟩; refine ⟨_, rfl, ?_⟩; have n0_ := Aside0.mk (blk_below (g := gb173) (blkN BK173) hb); have n1_ := Aside0.mk (below_step (belN HB) hb); clear BK173; clear HB; have BK173 := n0_; have HB := n1_; clear n0_ n1_; (try clear hb); (try clear hb2); (try clear hk); (try clear hi)))
  go_ret
  exact ⟨by first | rfl | (simp [errW_none, errW_some] <;> rfl) | (simp [*, errW_none, errW_some] <;> rfl), by repeat (first | (with_reducible first | exact HB.out | apply below_alloc | apply pw_below_drewN | apply below_drew1 | refine below_set ?_ GE173.out) | exact HB.out)⟩

end Go.Proofs.Ytcfbcoinbecdfaa.P
