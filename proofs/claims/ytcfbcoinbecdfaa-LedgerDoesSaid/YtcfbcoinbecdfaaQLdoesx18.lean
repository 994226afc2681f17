-- written by a program of this session (wip/print)
import Derived.Test.YtcfbcoinbecdfaaQLdoesx0
import Derived.Test.YtcfbcoinbecdfaaQLdoesx6
import Derived.Test.YtcfbcoinbecdfaaQLdoesx8
import Derived.Test.YtcfbcoinbecdfaaQLdoesx10
import Derived.Test.YtcfbcoinbecdfaaQLdoesx11
import Derived.Test.YtcfbcoinbecdfaaQLdoesx15
import Derived.Test.YtcfbcoinbecdfaaQLdoesx16
import Derived.Test.YtcfbcoinbecdfaaQLdoesx17
namespace Go.Proofs.Ytcfbcoinbecdfaa.P
open Go.RowKit Go.Proofs.YtcfbcoinbecdfaaW.PrintWords Go.Proofs.YtcfbcoinbecdfaaW.PrintLast Go.Proofs.YtcfbcoinbecdfaaW.PrintMore
attribute [local go_sem] max2_int min2_int max_two min_two max_three min_three max_four min_four run_sub64_   -- for this text's walks alone
set_option linter.unusedVariables false
set_option linter.unusedSimpArgs false

/-! ### damsonref10_End: function 66 (by hand) -/
def damsonref10_End.g (k : Nat) (l : List S25) (hold : Int) (paid : Bool) : Option (List S25 × Int × Int) := (damsonref10_Where.f k l hold).bind fun u => if u.2 = 0 then (damsonref10_Get.f k l u.1).bind fun t => (damsonref09_Fail.f k t.1 t.2.1 t.2.2.1 t.2.2.2.1 t.2.2.2.2.1 t.2.2.2.2.2.1 t.2.2.2.2.2.2.1 hold).bind fun d =>
  if paid = true then (damsonref09_Settle.f k t.1 t.2.1 t.2.2.1 t.2.2.2.1 t.2.2.2.2.1 t.2.2.2.2.2.1 t.2.2.2.2.2.2.1 hold).bind fun s => (damsonref10_with.g k l ⟨s.1, s.2.1, s.2.2.1, s.2.2.2.1, s.2.2.2.2.1, s.2.2.2.2.2.1, s.2.2.2.2.2.2.1⟩).bind fun x => some (x, s.2.2.2.2.2.2.2.1, 0)
  else (damsonref10_with.g k l ⟨d.1, d.2.1, d.2.2.1, d.2.2.2.1, d.2.2.2.2.1, d.2.2.2.2.2.1, d.2.2.2.2.2.2.1⟩).bind fun x => some (x, d.2.2.2.2.2.2.2.1, 0)
  else some ([], 0, u.2)
theorem damsonref10_End.mono_g (l : List S25) (hold : Int) (paid : Bool) (k : Nat) : LeO (damsonref10_End.g k l hold paid) (damsonref10_End.g (k + 1) l hold paid) := by
  unfold damsonref10_End.g
  repeat' first
    | (with_reducible exact LeO.refl _)
    | apply damsonref10_Where.mono
    | apply damsonref10_Get.mono
    | apply damsonref09_Fail.mono
    | apply damsonref09_Settle.mono
    | apply damsonref10_with.mono_g
    | (with_reducible refine LeO.ite ?_ ?_)
    | (with_reducible refine LeO.bind ?_ (fun _ => ?_))
set_option maxHeartbeats 16000000 in
set_option maxRecDepth 100000 in
theorem damsonref10_End.callsS (k : Nat) (A0 : Option Addr) (c0 : Nat) (l : List S25) (hold : Int) (paid : Bool) (r : List S25) (n er : Int) (w : World) (hr0 : Kd.C k25 w A0 l.length l) (hc0 : l.length ≤ c0) (h : damsonref10_End.g k l hold paid = some (r, n, er)) :
    Calls Try.prog 66 #[.slice A0 l.length c0, .int .u64 hold, .bool paid] w fun e w' => ∃ A c, e = .returned (.tuple #[.slice A r.length c, .int .u64 n, .int .i64 er]) ∧ r.length ≤ c ∧ Kd.C k25 w' A r.length r ∧ Below w.heap.size w w' := by
  have HR0 := aM_ hr0
  have HC0 := aM_ hc0
  have HB := aM_ (Below.refl w.heap.size w)
  clear hr0 hc0
  unfold damsonref10_End.g at h
  obtain ⟨⟨id, ue⟩, h1, h_⟩ := oB_ h
  replace h := h_
  clear h_
  have HF1 := aM_ h1
  clear h1
  try dsimp only at h
  by_cases hc : ue = 0
  case neg =>
    rw [if_neg hc] at h
    have he1 : (ue != 0) = true := bne_iff_ne.mpr hc
    clear hc
    injection h with h
    injection h with h1 h2
    injection h2 with h2 h3
    subst h1 h2 h3
    go_enter Try.func66, Try.ntmps66
    go_wp2_with (((go_at_call 51; refine (damsonref10_Where.calls k A0 c0 l hold id ue _ (Kd.C_below HR0.out HB.out) HC0.out HF1.out).mono ?_; rintro e w1 ⟨rfl, hb⟩; clear HF1; replace HB := aM_ (below_then HB.out HB.out.size hb); clear hb)))
    go_ret3
    exact ⟨none, 0, rfl, Nat.zero_le _, ag_nil25 _, HB.out⟩
  rw [if_pos hc] at h
  subst hc
  obtain ⟨⟨t0, t1, t2, t3, t4, t5, t6, te⟩, h1, h_⟩ := oB_ h
  replace h := h_
  clear h_
  have HF2 := aM_ h1
  clear h1
  try dsimp only at h
  obtain ⟨⟨d0, d1, d2, d3, d4, d5, d6, dn, de⟩, h1, h_⟩ := oB_ h
  replace h := h_
  clear h_
  have HF3 := aM_ h1
  clear h1
  try dsimp only at h
  cases paid
  case false =>
    rw [if_neg (by decide : ¬ false = true)] at h
    obtain ⟨x, h1, h_⟩ := oB_ h
    replace h := h_
    clear h_
    have HF4 := aM_ h1
    clear h1
    injection h with h
    injection h with h1 h2
    injection h2 with h2 h3
    subst h1 h2 h3
    go_enter Try.func66, Try.ntmps66
    go_wp2_with (first | (go_at_call 51; refine (damsonref10_Where.calls k A0 c0 l hold id 0 _ (Kd.C_below HR0.out HB.out) HC0.out HF1.out).mono ?_; rintro e w1 ⟨rfl, hb⟩; clear HF1; replace HB := aM_ (below_then HB.out HB.out.size hb); clear hb) | (go_at_call 49; refine (damsonref10_Get.calls k A0 c0 l id t0 t1 t2 t3 t4 t5 t6 te _ (Kd.C_below HR0.out HB.out) HC0.out HF2.out).mono ?_; rintro e w2 ⟨v, rfl, ho, hb⟩; clear HF2; replace HB := aM_ (below_then HB.out HB.out.size hb); obtain ⟨At, ct, hv⟩ := Kd.R_slice ho; subst hv; have HCt := aM_ (Kd.R_reads' ho).2.1; have HRt := aM_ (Kd.R_reads' ho).2.2; clear hb ho) | (go_at_call 41; have hal := (Below.refl w2.heap.size w2).alloc (Nat.le_refl _) (.cells #[.int .u64 t0, .int .u64 t1, .int .u64 t2, .int .u64 t3, .int .u64 t4, .slice At t5.length ct, .bool t6] 25); replace HB := aM_ (below_then HB.out HB.out.size hal); replace HRt := aM_ (Kd.C_below HRt.out hal); have KBt := aM_ (blk_new w2 (.cells #[.int .u64 t0, .int .u64 t1, .int .u64 t2, .int .u64 t3, .int .u64 t4, .slice At t5.length ct, .bool t6] 25)); clear hal; obtain ⟨hy0, hy1, hy2, hy3, hy4, hy5, hy6, hy7, hy8, hy9, hy10, hy11, hy12, hy13⟩ := cz7_ KBt.out; refine (damsonref09_Fail.calls k t0 t1 t2 t3 t4 At ct t5 t6 hold d0 d1 d2 d3 d4 d5 d6 dn de _ HRt.out HCt.out HF3.out).mono ?_; rintro e w3 ⟨v, rfl, ho, hb⟩; clear HF3; replace HB := aM_ (below_then HB.out HB.out.size hb); replace HRt := aM_ (Kd.C_below HRt.out hb); replace KBt := aM_ (blk_below KBt.out hb); obtain ⟨Ad, cd, hv⟩ := Kd.R_slice ho; subst hv; have HCd := aM_ (Kd.R_reads' ho).2.1; have HRd := aM_ (Kd.R_reads' ho).2.2; clear hy0 hy1 hy2 hy3 hy4 hy5 hy6 hy7 hy8 hy9 hy10 hy11 hy12 hy13; obtain ⟨hy0, hy1, hy2, hy3, hy4, hy5, hy6, hy7, hy8, hy9, hy10, hy11, hy12, hy13⟩ := cz7_ KBt.out; have hlt := blk_lt KBt.out; clear hb ho) | (go_at_call 113; have HG := aM_ HB.out.size; have hal := (Below.refl w3.heap.size w3).alloc (Nat.le_refl _) (.cells #[.int .u64 d0, .int .u64 d1, .int .u64 d2, .int .u64 d3, .int .u64 d4, .slice Ad d5.length cd, .bool d6] 25); replace HB := aM_ (below_then HB.out HB.out.size hal); replace HRt := aM_ (Kd.C_below HRt.out hal); replace KBt := aM_ (blk_below KBt.out hal); replace HRd := aM_ (Kd.C_below HRd.out hal); have KBd := aM_ (blk_new w3 (.cells #[.int .u64 d0, .int .u64 d1, .int .u64 d2, .int .u64 d3, .int .u64 d4, .slice Ad d5.length cd, .bool d6] 25)); clear hal; refine (damsonref10_with.callsS k A0 c0 l ⟨d0, d1, d2, d3, d4, d5, d6⟩ Ad cd x _ (Kd.C_below HR0.out HB.out) HC0.out HRd.out HCd.out HF4.out).mono ?_; rintro e w4 ⟨Ax, cx, rfl, hcx, hx, hb⟩; clear HF4; replace HB := aM_ (below_then HB.out HB.out.size hb); replace HRt := aM_ (Kd.C_below HRt.out hb); replace KBt := aM_ (blk_below KBt.out hb); replace HRd := aM_ (Kd.C_below HRd.out hb); replace KBd := aM_ (blk_below KBd.out hb); have HCx := aM_ hcx; have HRx := aM_ hx; clear hb hcx hx))
    go_ret3
    exact ⟨Ax, cx, rfl, HCx.out, HRx.out, HB.out⟩
  case true =>
    rw [if_pos rfl] at h
    obtain ⟨⟨s0, s1, s2, s3, s4, s5, s6, sn, se⟩, h1, h_⟩ := oB_ h
    replace h := h_
    clear h_
    have HF4 := aM_ h1
    clear h1
    try dsimp only at h
    obtain ⟨x, h1, h_⟩ := oB_ h
    replace h := h_
    clear h_
    have HF5 := aM_ h1
    clear h1
    injection h with h
    injection h with h1 h2
    injection h2 with h2 h3
    subst h1 h2 h3
    go_enter Try.func66, Try.ntmps66
    go_wp2_with (first | (go_at_call 51; refine (damsonref10_Where.calls k A0 c0 l hold id 0 _ (Kd.C_below HR0.out HB.out) HC0.out HF1.out).mono ?_; rintro e w1 ⟨rfl, hb⟩; clear HF1; replace HB := aM_ (below_then HB.out HB.out.size hb); clear hb) | (go_at_call 49; refine (damsonref10_Get.calls k A0 c0 l id t0 t1 t2 t3 t4 t5 t6 te _ (Kd.C_below HR0.out HB.out) HC0.out HF2.out).mono ?_; rintro e w2 ⟨v, rfl, ho, hb⟩; clear HF2; replace HB := aM_ (below_then HB.out HB.out.size hb); obtain ⟨At, ct, hv⟩ := Kd.R_slice ho; subst hv; have HCt := aM_ (Kd.R_reads' ho).2.1; have HRt := aM_ (Kd.R_reads' ho).2.2; clear hb ho) | (go_at_call 41; have hal := (Below.refl w2.heap.size w2).alloc (Nat.le_refl _) (.cells #[.int .u64 t0, .int .u64 t1, .int .u64 t2, .int .u64 t3, .int .u64 t4, .slice At t5.length ct, .bool t6] 25); replace HB := aM_ (below_then HB.out HB.out.size hal); replace HRt := aM_ (Kd.C_below HRt.out hal); have KBt := aM_ (blk_new w2 (.cells #[.int .u64 t0, .int .u64 t1, .int .u64 t2, .int .u64 t3, .int .u64 t4, .slice At t5.length ct, .bool t6] 25)); clear hal; obtain ⟨hy0, hy1, hy2, hy3, hy4, hy5, hy6, hy7, hy8, hy9, hy10, hy11, hy12, hy13⟩ := cz7_ KBt.out; refine (damsonref09_Fail.calls k t0 t1 t2 t3 t4 At ct t5 t6 hold d0 d1 d2 d3 d4 d5 d6 dn de _ HRt.out HCt.out HF3.out).mono ?_; rintro e w3 ⟨v, rfl, ho, hb⟩; clear HF3; replace HB := aM_ (below_then HB.out HB.out.size hb); replace HRt := aM_ (Kd.C_below HRt.out hb); replace KBt := aM_ (blk_below KBt.out hb); obtain ⟨Ad, cd, hv⟩ := Kd.R_slice ho; subst hv; have HCd := aM_ (Kd.R_reads' ho).2.1; have HRd := aM_ (Kd.R_reads' ho).2.2; clear hy0 hy1 hy2 hy3 hy4 hy5 hy6 hy7 hy8 hy9 hy10 hy11 hy12 hy13; obtain ⟨hy0, hy1, hy2, hy3, hy4, hy5, hy6, hy7, hy8, hy9, hy10, hy11, hy12, hy13⟩ := cz7_ KBt.out; have hlt := blk_lt KBt.out; clear hb ho) | (go_at_call 40; have HG := aM_ HB.out.size; have hal := (Below.refl w3.heap.size w3).alloc (Nat.le_refl _) (.cells #[.int .u64 d0, .int .u64 d1, .int .u64 d2, .int .u64 d3, .int .u64 d4, .slice Ad d5.length cd, .bool d6] 25); replace HB := aM_ (below_then HB.out HB.out.size hal); replace HRt := aM_ (Kd.C_below HRt.out hal); replace KBt := aM_ (blk_below KBt.out hal); replace HRd := aM_ (Kd.C_below HRd.out hal); have KBd := aM_ (blk_new w3 (.cells #[.int .u64 d0, .int .u64 d1, .int .u64 d2, .int .u64 d3, .int .u64 d4, .slice Ad d5.length cd, .bool d6] 25)); clear hal; have HS := aM_ (blk_lt KBd.out); refine (damsonref09_Settle.calls k t0 t1 t2 t3 t4 At ct t5 t6 hold s0 s1 s2 s3 s4 s5 s6 sn se _ HRt.out HCt.out HF4.out).mono ?_; rintro e w4 ⟨v, rfl, ho, hb⟩; clear HF4; replace HB := aM_ (below_then HB.out HB.out.size hb); replace HRt := aM_ (Kd.C_below HRt.out hb); replace KBt := aM_ (blk_below KBt.out hb); replace HRd := aM_ (Kd.C_below HRd.out hb); replace KBd := aM_ (blk_below KBd.out hb); obtain ⟨As, cs, hv⟩ := Kd.R_slice ho; subst hv; have HCs := aM_ (Kd.R_reads' ho).2.1; have HRs := aM_ (Kd.R_bound ho); obtain ⟨hz0, hz1, hz2, hz3, hz4, hz5, hz6, hz7, hz8, hz9, hz10, hz11, hz12, hz13⟩ := cz7_ KBd.out; clear hb ho hy0 hy1 hy2 hy3 hy4 hy5 hy6 hy7 hy8 hy9 hy10 hy11 hy12 hy13 hlt) | (go_at_call 113; have hR7 := put7_R (w := w4) (g := w3.heap.size) (c := ⟨s0, s1, s2, s3, s4, s5, s6⟩) (v := (.slice As s5.length cs)) HRs.out (fun k_ hk => by have := HS.out; omega); have hB7 := put7_below (g := w3.heap.size) (c := ⟨s0, s1, s2, s3, s4, s5, s6⟩) (v := (.slice As s5.length cs)) HB.out HG.out; refine (damsonref10_with.callsS k A0 c0 l ⟨s0, s1, s2, s3, s4, s5, s6⟩ As cs x (put7 w4 w3.heap.size ⟨s0, s1, s2, s3, s4, s5, s6⟩ (.slice As s5.length cs)) (Kd.C_below HR0.out hB7) HC0.out (Kd.R_reads' hR7).2.2 HCs.out HF5.out).mono ?_; rintro e w5 ⟨Ax, cx, rfl, hcx, hx, hb⟩; clear HF5; have HCx := aM_ hcx; have HRx := aM_ hx; replace HB := aM_ (below_step hB7 hb); clear hR7 hB7 hb hcx hx))
    go_ret3
    exact ⟨Ax, cx, rfl, HCx.out, HRx.out, HB.out⟩

/-! ### damsonlaw10_LedgerDoes: function 14 (by hand) -/
/-- A row of channels that may be written to, and whose holds may be. -/
def Row25 (w : World) (B : Nat) (v : Value) (n : Nat) : Prop := n = 0 ∨ ∃ g c cur, v = .slice (some ⟨g, 0, none⟩) n c ∧ B ≤ g ∧ w.heap[g]? = some (.cells cur 25 (0, 0)) ∧ ∀ i, i < n → (∃ z : Int, cur[i * 7 + 1]? = some (.int .u64 z)) ∧ ∃ (A : Option Addr) (m c1 : Nat), cur[i * 7 + 5]? = some (.slice A m c1) ∧ m ≤ 9223372036854775807 ∧ Row44 w B (.slice A m c1) m
theorem row25_of_own {w : World} {base B : Nat} {v : Value} {xs : List S25} (h : Own25 w base v xs) (hB : B ≤ base) : Row25 w B v xs.length := by
  obtain ⟨rows, hR, hl, hx⟩ := h
  rcases Nat.eq_zero_or_pos xs.length with h0 | h0
  · exact .inl h0
  · obtain ⟨g, cap, hv, hbg, hgl, cells, hblk⟩ := Kd.R_form hR (by omega)
    rw [hl] at hv
    subst hv
    have hC := (Kd.R_reads' hR).2.2
    rw [hl] at hC
    obtain ⟨ad, ea, hcell⟩ := hC.2.2 h0
    injection ea with ea
    subst ea
    refine .inr ⟨g, cap, cells, rfl, Nat.le_trans hB hbg, hblk, fun i hi => ?_⟩
    obtain ⟨cs, q1, A, c, q2, q3, q4, q5⟩ := hx i xs[i] (List.getElem?_eq_getElem hi)
    obtain ⟨c', r1, r2, r3⟩ := hcell i cs q1
    have e : c' = cs := r2.1
    subst e
    subst q2
    have q : ∀ j u, ([.int .u64 xs[i].f0, .int .u64 xs[i].f1, .int .u64 xs[i].f2, .int .u64 xs[i].f3, .int .u64 xs[i].f4, .slice A xs[i].f5.length c, .bool xs[i].f6] : List Value)[j]? = some u → cells[i * 7 + j]? = some u := fun j u hj => by
      have := r3 j u hj
      rw [add_plain, blk_cell hblk] at this
      exact this
    refine ⟨⟨_, q 1 _ rfl⟩, A, _, c, q 5 _ rfl, q4.2.1, ?_⟩
    rcases q5 with h5 | ⟨g1, c1, cur1, e1, b1, k1, z1⟩
    · exact .inl h5
    · exact .inr ⟨g1, c1, cur1, e1, Nat.le_trans hB b1, k1, z1⟩
theorem Row25.below {w w1 : World} {B : Nat} {v : Value} {n : Nat} (h : Row25 w B v n) (hb : Below w.heap.size w w1) : Row25 w1 B v n := by
  rcases h with h | ⟨g, c, cur, hv, hg, hblk, hz⟩
  · exact .inl h
  · refine .inr ⟨g, c, cur, hv, hg, blk_below hblk hb, fun i hi => ?_⟩
    obtain ⟨z, A, m, c1, q1, q2, q3⟩ := hz i hi
    exact ⟨z, A, m, c1, q1, q2, q3.below hb⟩
theorem Row25.put44 {w : World} {B : Nat} {v : Value} {n : Nat} (h : Row25 w B v n) {g : Nat} {cur : Array Value} (hc : w.heap[g]? = some (.cells cur 44 (0, 0))) (j : Nat) (z : Int) : Row25 (w.setCell ⟨g, j, none⟩ (.int .u64 z)) B v n := by
  rcases h with h | ⟨g1, c, cur1, hv, hg, hblk, hz⟩
  · exact .inl h
  · refine .inr ⟨g1, c, cur1, hv, hg, blk_far hblk (blk_ne hblk hc (by decide)) _, fun i hi => ?_⟩
    obtain ⟨z1, A, m, c1, q1, q2, q3⟩ := hz i hi
    exact ⟨z1, A, m, c1, q1, q2, q3.put hc j z⟩
theorem Row44.far {w : World} {B : Nat} {v : Value} {n : Nat} (h : Row44 w B v n) {g : Nat} {cur : Array Value} (hc : w.heap[g]? = some (.cells cur 25 (0, 0))) (j : Nat) (u : Value) : Row44 (w.setCell ⟨g, j, none⟩ u) B v n := by
  rcases h with h | ⟨g1, c, cur1, hv, hg, hblk, hz⟩
  · exact .inl h
  · exact .inr ⟨g1, c, cur1, hv, hg, blk_far hblk (blk_ne hblk hc (by decide)) _, hz⟩
theorem Row25.put25 {w : World} {B : Nat} {v : Value} {n : Nat} (h : Row25 w B v n) {g : Nat} {cur : Array Value} (hc : w.heap[g]? = some (.cells cur 25 (0, 0))) (j : Nat) (z : Int) : Row25 (w.setCell ⟨g, j * 7 + 1, none⟩ (.int .u64 z)) B v n := by
  rcases h with h | ⟨g1, c, cur1, hv, hg, hblk, hz⟩
  · exact .inl h
  · by_cases e : g1 = g
    · subst e
      rw [hblk] at hc
      injection hc with hc
      injection hc with hc
      subst hc
      refine .inr ⟨g1, c, _, hv, hg, blk_set hblk _ _, fun i hi => ?_⟩
      obtain ⟨⟨z1, hz1⟩, A, m, c1, q1, q2, q3⟩ := hz i hi
      refine ⟨?_, A, m, c1, ?_, q2, q3.far hblk _ _⟩
      · by_cases ej : j * 7 + 1 = i * 7 + 1
        · have hlt := (Array.getElem?_eq_some_iff.1 hz1).1
          exact ⟨z, by rw [Array.getElem?_setIfInBounds, if_pos ej, if_pos (by omega)]⟩
        · exact ⟨z1, by rw [Array.getElem?_setIfInBounds, if_neg ej]; exact hz1⟩
      · rw [Array.getElem?_setIfInBounds, if_neg (by omega)]; exact q1
    · refine .inr ⟨g1, c, cur1, hv, hg, blk_far hblk e _, fun i hi => ?_⟩
      obtain ⟨z1, A, m, c1, q1, q2, q3⟩ := hz i hi
      exact ⟨z1, A, m, c1, q1, q2, q3.far hc _ _⟩
/-- What stays while the rows that were made are written to. -/
structure Inv10 (w1 : World) (cs : Array Value) (g0 : Nat) (wr : World) : Prop where
  bel : Below w1.heap.size w1 wr
  blk : wr.heap[g0]? = some (.cells cs 47 (0, 0))
  rows : ∀ i, i < 4 → ∃ (A : Option Addr) (n c : Nat), cs[i]? = some (.slice A n c) ∧ n ≤ 9223372036854775807 ∧ Row25 wr w1.heap.size (.slice A n c) n
theorem Inv10.put44 {w1 : World} {cs : Array Value} {g0 : Nat} {wr : World} (h : Inv10 w1 cs g0 wr) {g : Nat} {cur : Array Value} (hc : wr.heap[g]? = some (.cells cur 44 (0, 0))) (hg : w1.heap.size ≤ g) (j : Nat) (z : Int) : Inv10 w1 cs g0 (wr.setCell ⟨g, j, none⟩ (.int .u64 z)) :=
  ⟨h.bel.setCell hg _, blk_far h.blk (blk_ne h.blk hc (by decide)) _, fun i hi => by
    obtain ⟨A, n, c, q1, q2, q3⟩ := h.rows i hi
    exact ⟨A, n, c, q1, q2, q3.put44 hc j z⟩⟩
theorem Inv10.put25 {w1 : World} {cs : Array Value} {g0 : Nat} {wr : World} (h : Inv10 w1 cs g0 wr) {g : Nat} {cur : Array Value} (hc : wr.heap[g]? = some (.cells cur 25 (0, 0))) (hg : w1.heap.size ≤ g) (j : Nat) (z : Int) : Inv10 w1 cs g0 (wr.setCell ⟨g, j * 7 + 1, none⟩ (.int .u64 z)) :=
  ⟨h.bel.setCell hg _, blk_far h.blk (blk_ne h.blk hc (by decide)) _, fun i hi => by
    obtain ⟨A, n, c, q1, q2, q3⟩ := h.rows i hi
    exact ⟨A, n, c, q1, q2, q3.put25 hc j z⟩⟩
/-- One cell of a block of channels. -/
def Slot25 (w : World) (g i : Nat) (u : Value) : Prop := ∃ cur, w.heap[g]? = some (.cells cur 25 (0, 0)) ∧ cur[i]? = some u
theorem Slot25.cell {w : World} {g i : Nat} {u : Value} (h : Slot25 w g i u) : w.cell? ⟨g, i, none⟩ = some u := by
  obtain ⟨cur, h1, h2⟩ := h
  exact (blk_cell h1 i).trans h2
theorem Slot25.put44 {w : World} {g i : Nat} {u : Value} (h : Slot25 w g i u) {gx : Nat} {cur : Array Value} (hc : w.heap[gx]? = some (.cells cur 44 (0, 0))) (j : Nat) (z : Int) : Slot25 (w.setCell ⟨gx, j, none⟩ (.int .u64 z)) g i u := by
  obtain ⟨c, h1, h2⟩ := h
  exact ⟨c, blk_far h1 (blk_ne h1 hc (by decide)) _, h2⟩
theorem Slot25.put25 {w : World} {g i : Nat} {u : Value} (h : Slot25 w g i u) (j : Nat) (v : Value) (hne : j ≠ i) : Slot25 (w.setCell ⟨g, j, none⟩ v) g i u := by
  obtain ⟨c, h1, h2⟩ := h
  exact ⟨_, blk_set h1 j v, by rw [Array.getElem?_setIfInBounds, if_neg hne]; exact h2⟩
theorem four25 {w3 w : World} {A1 A2 A3 A4 : Option Addr} {n1 n2 n3 n4 d1 d2 d3 d4 : Nat} (hb : Below w3.heap.size w3 w) (m1 : n1 ≤ 9223372036854775807) (m2 : n2 ≤ 9223372036854775807) (m3 : n3 ≤ 9223372036854775807) (m4 : n4 ≤ 9223372036854775807) (h1 : Row25 w w3.heap.size (.slice A1 n1 d1) n1) (h2 : Row25 w w3.heap.size (.slice A2 n2 d2) n2) (h3 : Row25 w w3.heap.size (.slice A3 n3 d3) n3) (h4 : Row25 w w3.heap.size (.slice A4 n4 d4) n4) :
    Inv10 w3 #[.slice A1 n1 d1, .slice A2 n2 d2, .slice A3 n3 d3, .slice A4 n4 d4] w.heap.size (w.alloc (.cells #[.slice A1 n1 d1, .slice A2 n2 d2, .slice A3 n3 d3, .slice A4 n4 d4] 47)) := by
  have ha := (Below.refl w.heap.size w).alloc (Nat.le_refl _) (.cells #[.slice A1 n1 d1, .slice A2 n2 d2, .slice A3 n3 d3, .slice A4 n4 d4] 47)
  refine ⟨hb.alloc hb.size _, blk_new w _, fun i hi => ?_⟩
  match i, hi with
  | 0, _ => exact ⟨_, _, _, rfl, m1, h1.below ha⟩
  | 1, _ => exact ⟨_, _, _, rfl, m2, h2.below ha⟩
  | 2, _ => exact ⟨_, _, _, rfl, m3, h3.below ha⟩
  | 3, _ => exact ⟨_, _, _, rfl, m4, h4.below ha⟩
def damsonlaw10_LedgerDoes.b (k : Nat) (l : List S25) (c : S25) (id hold n : Int) (paid : Bool) : Option Bool := (damsonref10_Copy.f k l).bind fun lw => (ledger_Open.g k l c).bind fun a => (damsonref10_Open.g k l c).bind fun b => (ledger_Close.g k l id).bind fun p => (damsonref10_Close.g k l id).bind fun q => (ledger_Push.g k l id n).bind fun s => (damsonref10_Push.g k l id n).bind fun t => (ledger_Hold.g k l id hold n).bind fun u => (damsonref10_Hold.g k l id hold n).bind fun v => (ledger_End.g k l hold paid).bind fun y => (damsonref10_End.g k l hold paid).bind fun z => (damsonref10_Same.f k a.1 b.1).bind fun m1 => (damsonref10_Same.f k p.1 q.1).bind fun m2 => (damsonref10_Same.f k s.1 t.1).bind fun m3 => (damsonref10_Same.f k u.1 v.1).bind fun m4 => (damsonref10_Same.f k y.1 z.1).bind fun m5 => (damsonref10_Same.f k l lw).bind fun m6 =>
  if m1 = true ∧ m2 = true ∧ m3 = true ∧ m4 = true ∧ m5 = true ∧ m6 = true ∧ a.2 = b.2 ∧ p.2 = q.2 ∧ s.2 = t.2 ∧ u.2 = v.2 ∧ y.2.1 = z.2.1 ∧ y.2.2 = z.2.2 then some true else none
def damsonlaw10_LedgerDoes.g (k : Nat) (l : List S25) (c : S25) (id hold n : Int) (paid : Bool) : Option Bool := (damsonlaw10_live.f k).bind fun t1 => if t1 = true then (damsonref10_Few.f k l).bind fun t2 => if t2 = true then if c.f5.length ≤ 20 then damsonlaw10_LedgerDoes.b k l c id hold n paid else some true else some true else none
def damsonlaw10_LedgerDoes.f (k : Nat) (l0 : List S25) (a1_0 a1_1 a1_2 a1_3 a1_4 : Int) (l1_5 : List S44) (a1_6 : Bool) (a2 a3 a4 : Int) (a5 : Bool) : Option Bool := damsonlaw10_LedgerDoes.g k l0 ⟨a1_0, a1_1, a1_2, a1_3, a1_4, l1_5, a1_6⟩ a2 a3 a4 a5
theorem damsonlaw10_LedgerDoes.mono : ∀ b0 b1 b2 b3 b4 b5 b6 b7 b8 b9 b10 b11 k, LeO (damsonlaw10_LedgerDoes.f k b0 b1 b2 b3 b4 b5 b6 b7 b8 b9 b10 b11) (damsonlaw10_LedgerDoes.f (k + 1) b0 b1 b2 b3 b4 b5 b6 b7 b8 b9 b10 b11) := by
  intro b0 b1 b2 b3 b4 b5 b6 b7 b8 b9 b10 b11 k
  unfold damsonlaw10_LedgerDoes.f damsonlaw10_LedgerDoes.g damsonlaw10_LedgerDoes.b
  repeat' first
    | (with_reducible exact LeO.refl _)
    | apply damsonlaw10_live.mono
    | apply damsonref10_Few.mono
    | apply damsonref10_Copy.mono
    | apply damsonref10_Same.mono
    | apply ledger_Open.mono_g
    | apply ledger_Close.mono_g
    | apply ledger_Push.mono_g
    | apply ledger_Hold.mono_g
    | apply ledger_End.mono_g
    | apply damsonref10_Open.mono_g
    | apply damsonref10_Close.mono_g
    | apply damsonref10_Push.mono_g
    | apply damsonref10_Hold.mono_g
    | apply damsonref10_End.mono_g
    | (with_reducible refine LeO.ite ?_ ?_)
    | (with_reducible refine LeO.bind ?_ (fun _ => ?_))
set_option maxHeartbeats 16000000 in
set_option maxRecDepth 100000 in
theorem damsonlaw10_LedgerDoes.callsS (k : Nat) (A0 : Option Addr) (c0 : Nat) (l : List S25) (c : S25) (A1 : Option Addr) (c1 : Nat) (id hold n : Int) (paid : Bool) (r : Bool) (w : World) (hr0 : Kd.C k25 w A0 l.length l) (hc0 : l.length ≤ c0) (hr1 : Kd.C k44 w A1 c.f5.length c.f5) (hc1 : c.f5.length ≤ c1) (h : damsonlaw10_LedgerDoes.g k l c id hold n paid = some r) :
    Calls Try.prog 14 #[.slice A0 l.length c0, .agg #[.int .u64 c.f0, .int .u64 c.f1, .int .u64 c.f2, .int .u64 c.f3, .int .u64 c.f4, .slice A1 c.f5.length c1, .bool c.f6], .int .u64 id, .int .u64 hold, .int .u64 n, .bool paid] w fun e w' => e = .returned (.bool r) ∧ Below w.heap.size w w' := by
  have HR0 := aM_ hr0
  have HC0 := aM_ hc0
  have HR1 := aM_ hr1
  have HC1 := aM_ hc1
  clear hr0 hc0 hr1 hc1
  have HB := aM_ ((Below.refl w.heap.size w).alloc (Nat.le_refl _) (.cells #[.int .u64 c.f0, .int .u64 c.f1, .int .u64 c.f2, .int .u64 c.f3, .int .u64 c.f4, .slice A1 c.f5.length c1, .bool c.f6] 25))
  have K1 := aM_ (blk_new w (.cells #[.int .u64 c.f0, .int .u64 c.f1, .int .u64 c.f2, .int .u64 c.f3, .int .u64 c.f4, .slice A1 c.f5.length c1, .bool c.f6] 25))
  unfold damsonlaw10_LedgerDoes.g at h
  obtain ⟨t1, h1, h_⟩ := oB_ h
  replace h := h_
  clear h_
  have HF1 := aM_ h1
  clear h1
  by_cases hc : t1 = true
  case neg =>
    rw [if_neg hc] at h
    cases h
  rw [if_pos hc] at h
  subst hc
  obtain ⟨t2, h1, h_⟩ := oB_ h
  replace h := h_
  clear h_
  have HF2 := aM_ h1
  clear h1
  by_cases hc : t2 = true
  case neg =>
    rw [if_neg hc] at h
    have hb_ : t2 = false := by simpa using hc
    subst hb_
    injection h with h
    subst h
    go_enter Try.func14, Try.ntmps14
    go_wp2_with (first | (go_at_call 44; refine (damsonlaw10_live.calls k _ _ HF1.out).mono ?_; rintro e w1 ⟨rfl, hb⟩; clear HF1; replace HB := aM_ (below_then HB.out HB.out.size hb); replace K1 := aM_ (blk_below K1.out hb); clear hb) | (go_at_call 45; refine (damsonref10_Few.calls k A0 c0 l _ _ (Kd.C_below HR0.out HB.out) HC0.out HF2.out).mono ?_; rintro e w2 ⟨rfl, hb⟩; clear HF2; replace HB := aM_ (below_then HB.out HB.out.size hb); replace K1 := aM_ (blk_below K1.out hb); obtain ⟨hy0, hy1, hy2, hy3, hy4, hy5, hy6, hy7, hy8, hy9, hy10, hy11, hy12, hy13⟩ := cz7_ K1.out; clear hb))
    go_ret
    exact ⟨rfl, HB.out⟩
  rw [if_pos hc] at h
  subst hc
  by_cases hc : c.f5.length ≤ 20
  case neg =>
    rw [if_neg hc] at h
    have hc1 : decide ((20 : Int) < (c.f5.length : Int)) = true := decide_eq_true (by omega)
    have hc2 : decide (20 < c.f5.length) = true := decide_eq_true (by omega)
    clear hc
    injection h with h
    subst h
    go_enter Try.func14, Try.ntmps14
    go_wp2_with (first | (go_at_call 44; refine (damsonlaw10_live.calls k _ _ HF1.out).mono ?_; rintro e w1 ⟨rfl, hb⟩; clear HF1; replace HB := aM_ (below_then HB.out HB.out.size hb); replace K1 := aM_ (blk_below K1.out hb); clear hb) | (go_at_call 45; refine (damsonref10_Few.calls k A0 c0 l _ _ (Kd.C_below HR0.out HB.out) HC0.out HF2.out).mono ?_; rintro e w2 ⟨rfl, hb⟩; clear HF2; replace HB := aM_ (below_then HB.out HB.out.size hb); replace K1 := aM_ (blk_below K1.out hb); obtain ⟨hy0, hy1, hy2, hy3, hy4, hy5, hy6, hy7, hy8, hy9, hy10, hy11, hy12, hy13⟩ := cz7_ K1.out; clear hb))
    go_ret
    exact ⟨rfl, HB.out⟩
  rw [if_pos hc] at h
  have hc1 : decide ((20 : Int) < (c.f5.length : Int)) = false := decide_eq_false (by omega)
  have hc2 : decide (20 < c.f5.length) = false := decide_eq_false (by omega)
  clear hc
  unfold damsonlaw10_LedgerDoes.b at h
  obtain ⟨lw, h1, h_⟩ := oB_ h
  replace h := h_
  clear h_
  have HFlw := aM_ h1
  clear h1
  obtain ⟨⟨la, ea⟩, h1, h_⟩ := oB_ h
  replace h := h_
  clear h_
  have HFa := aM_ h1
  clear h1
  try dsimp only at h
  obtain ⟨⟨lb, eb⟩, h1, h_⟩ := oB_ h
  replace h := h_
  clear h_
  have HFb := aM_ h1
  clear h1
  try dsimp only at h
  obtain ⟨⟨lp, ep⟩, h1, h_⟩ := oB_ h
  replace h := h_
  clear h_
  have HFp := aM_ h1
  clear h1
  try dsimp only at h
  obtain ⟨⟨lq, eq⟩, h1, h_⟩ := oB_ h
  replace h := h_
  clear h_
  have HFq := aM_ h1
  clear h1
  try dsimp only at h
  obtain ⟨⟨ls, es⟩, h1, h_⟩ := oB_ h
  replace h := h_
  clear h_
  have HFs := aM_ h1
  clear h1
  try dsimp only at h
  obtain ⟨⟨lt, et⟩, h1, h_⟩ := oB_ h
  replace h := h_
  clear h_
  have HFt := aM_ h1
  clear h1
  try dsimp only at h
  obtain ⟨⟨lu, eu⟩, h1, h_⟩ := oB_ h
  replace h := h_
  clear h_
  have HFu := aM_ h1
  clear h1
  try dsimp only at h
  obtain ⟨⟨lv, ev⟩, h1, h_⟩ := oB_ h
  replace h := h_
  clear h_
  have HFv := aM_ h1
  clear h1
  try dsimp only at h
  obtain ⟨⟨ly, ny, ey⟩, h1, h_⟩ := oB_ h
  replace h := h_
  clear h_
  have HFy := aM_ h1
  clear h1
  try dsimp only at h
  obtain ⟨⟨lz, nz, ez⟩, h1, h_⟩ := oB_ h
  replace h := h_
  clear h_
  have HFz := aM_ h1
  clear h1
  try dsimp only at h
  obtain ⟨m1, h1, h_⟩ := oB_ h
  replace h := h_
  clear h_
  have HFm1 := aM_ h1
  clear h1
  obtain ⟨m2, h1, h_⟩ := oB_ h
  replace h := h_
  clear h_
  have HFm2 := aM_ h1
  clear h1
  obtain ⟨m3, h1, h_⟩ := oB_ h
  replace h := h_
  clear h_
  have HFm3 := aM_ h1
  clear h1
  obtain ⟨m4, h1, h_⟩ := oB_ h
  replace h := h_
  clear h_
  have HFm4 := aM_ h1
  clear h1
  obtain ⟨m5, h1, h_⟩ := oB_ h
  replace h := h_
  clear h_
  have HFm5 := aM_ h1
  clear h1
  obtain ⟨m6, h1, h_⟩ := oB_ h
  replace h := h_
  clear h_
  have HFm6 := aM_ h1
  clear h1
  by_cases hc : m1 = true ∧ m2 = true ∧ m3 = true ∧ m4 = true ∧ m5 = true ∧ m6 = true ∧ ea = eb ∧ ep = eq ∧ es = et ∧ eu = ev ∧ ny = nz ∧ ey = ez
  case neg =>
    rw [if_neg hc] at h
    cases h
  rw [if_pos hc] at h
  injection h with h
  subst h
  obtain ⟨rfl, rfl, rfl, rfl, rfl, rfl, g1, g2, g3, g4, g5, g6⟩ := hc
  have gb1 : (ea == eb) = true := beq_iff_eq.mpr g1
  have gb2 : (ep == eq) = true := beq_iff_eq.mpr g2
  have gb3 : (es == et) = true := beq_iff_eq.mpr g3
  have gb4 : (eu == ev) = true := beq_iff_eq.mpr g4
  have gb5 : (ny == nz) = true := beq_iff_eq.mpr g5
  have gb6 : (ey == ez) = true := beq_iff_eq.mpr g6
  clear g1 g2 g3 g4 g5 g6
  go_enter Try.func14, Try.ntmps14
  go_wp2_with (first | (go_at_call 44; refine (damsonlaw10_live.calls k _ _ HF1.out).mono ?_; rintro e w1 ⟨rfl, hb⟩; clear HF1; replace HB := aM_ (below_then HB.out HB.out.size hb); replace K1 := aM_ (blk_below K1.out hb); clear hb) | (go_at_call 45; refine (damsonref10_Few.calls k A0 c0 l _ _ (Kd.C_below HR0.out HB.out) HC0.out HF2.out).mono ?_; rintro e w2 ⟨rfl, hb⟩; clear HF2; replace HB := aM_ (below_then HB.out HB.out.size hb); replace K1 := aM_ (blk_below K1.out hb); obtain ⟨hy0, hy1, hy2, hy3, hy4, hy5, hy6, hy7, hy8, hy9, hy10, hy11, hy12, hy13⟩ := cz7_ K1.out; clear hb) | (go_at_call 59; clear hy0 hy1 hy2 hy3 hy4 hy5 hy6 hy7 hy8 hy9 hy10 hy11 hy12 hy13; refine (damsonref10_Copy.calls k A0 c0 l lw _ (Kd.C_below HR0.out HB.out) HC0.out HFlw.out).mono ?_; rintro e w3 ⟨v, rfl, ho, hb⟩; clear HFlw; replace HB := aM_ (below_then HB.out HB.out.size hb); replace K1 := aM_ (blk_below K1.out hb); obtain ⟨Aw, cw, hv⟩ := Kd.S_slice ho; subst hv; have HCw := aM_ (Kd.S_reads' ho).2.1; have HRw := aM_ (Kd.S_reads' ho).2.2; have HW := aM_ (Below.refl w3.heap.size w3); have HB3 := HB; obtain ⟨hy0, hy1, hy2, hy3, hy4, hy5, hy6, hy7, hy8, hy9, hy10, hy11, hy12, hy13⟩ := cz7_ K1.out; clear hb ho) | (go_at_call 46; clear hy0 hy1 hy2 hy3 hy4 hy5 hy6 hy7 hy8 hy9 hy10 hy11 hy12 hy13; have hsz := HW.out.size; refine (ledger_Open.callsS k A0 c0 l c A1 c1 la ea _ (Kd.C_below HR0.out HB.out) HC0.out (Kd.C_below HR1.out HB.out) HC1.out HFa.out).mono ?_; rintro e w4 ⟨v, rfl, ho, hb⟩; clear HFa; replace HB := aM_ (below_then HB.out HB.out.size hb); replace K1 := aM_ (blk_below K1.out hb); replace HW := aM_ (below_then HW.out HW.out.size hb); obtain ⟨Aa, ca, hv, hcl, hC⟩ := ho.reads; subst hv; have HCa := aM_ hcl; have HRa := aM_ hC; have HXa : Aside0 (la.length ≤ 9223372036854775807) := ⟨hC.2.1⟩; have HVa := aM_ (row25_of_own ho hsz); clear hsz; clear hcl hC; obtain ⟨hy0, hy1, hy2, hy3, hy4, hy5, hy6, hy7, hy8, hy9, hy10, hy11, hy12, hy13⟩ := cz7_ K1.out; clear hb ho) | (go_at_call 60; clear hy0 hy1 hy2 hy3 hy4 hy5 hy6 hy7 hy8 hy9 hy10 hy11 hy12 hy13; refine (damsonref10_Open.callsS k A0 c0 l c A1 c1 lb eb _ (Kd.C_below HR0.out HB.out) HC0.out (Kd.C_below HR1.out HB.out) HC1.out HFb.out).mono ?_; rintro e w5 ⟨Ab, cb, rfl, hcl, hC, hb⟩; clear HFb; replace HB := aM_ (below_then HB.out HB.out.size hb); replace K1 := aM_ (blk_below K1.out hb); replace HW := aM_ (below_then HW.out HW.out.size hb); replace HRa := aM_ (Kd.C_below HRa.out hb); replace HVa := aM_ (Row25.below HVa.out hb); have HCb := aM_ hcl; have HRb := aM_ hC; clear hcl hC; clear hb) | (go_at_call 61; refine (ledger_Close.callsS k A0 c0 l id lp ep _ (Kd.C_below HR0.out HB.out) HC0.out HFp.out).mono ?_; rintro e w6 ⟨v, rfl, ho, hb⟩; clear HFp; replace HB := aM_ (below_then HB.out HB.out.size hb); replace K1 := aM_ (blk_below K1.out hb); replace HW := aM_ (below_then HW.out HW.out.size hb); replace HRa := aM_ (Kd.C_below HRa.out hb); replace HVa := aM_ (Row25.below HVa.out hb); replace HRb := aM_ (Kd.C_below HRb.out hb); obtain ⟨Ap, cp, hv, hcl, hC⟩ := ho.reads; subst hv; have HCp := aM_ hcl; have HRp := aM_ hC; clear hcl hC; clear hb ho) | (go_at_call 62; refine (damsonref10_Close.callsS k A0 c0 l id lq eq _ (Kd.C_below HR0.out HB.out) HC0.out HFq.out).mono ?_; rintro e w7 ⟨Aq, cq, rfl, hcl, hC, hb⟩; clear HFq; replace HB := aM_ (below_then HB.out HB.out.size hb); replace K1 := aM_ (blk_below K1.out hb); replace HW := aM_ (below_then HW.out HW.out.size hb); replace HRa := aM_ (Kd.C_below HRa.out hb); replace HVa := aM_ (Row25.below HVa.out hb); replace HRb := aM_ (Kd.C_below HRb.out hb); replace HRp := aM_ (Kd.C_below HRp.out hb); have HCq := aM_ hcl; have HRq := aM_ hC; clear hcl hC; clear hb) | (go_at_call 63; have hsz := HW.out.size; refine (ledger_Push.callsS k A0 c0 l id n ls es _ (Kd.C_below HR0.out HB.out) HC0.out HFs.out).mono ?_; rintro e w8 ⟨v, rfl, ho, hb⟩; clear HFs; replace HB := aM_ (below_then HB.out HB.out.size hb); replace K1 := aM_ (blk_below K1.out hb); replace HW := aM_ (below_then HW.out HW.out.size hb); replace HRa := aM_ (Kd.C_below HRa.out hb); replace HVa := aM_ (Row25.below HVa.out hb); replace HRb := aM_ (Kd.C_below HRb.out hb); replace HRp := aM_ (Kd.C_below HRp.out hb); replace HRq := aM_ (Kd.C_below HRq.out hb); obtain ⟨As, cs, hv, hcl, hC⟩ := ho.reads; subst hv; have HCs := aM_ hcl; have HRs := aM_ hC; have HXs : Aside0 (ls.length ≤ 9223372036854775807) := ⟨hC.2.1⟩; have HVs := aM_ (row25_of_own ho hsz); clear hsz; clear hcl hC; clear hb ho) | (go_at_call 64; refine (damsonref10_Push.callsS k A0 c0 l id n lt et _ (Kd.C_below HR0.out HB.out) HC0.out HFt.out).mono ?_; rintro e w9 ⟨At, ct, rfl, hcl, hC, hb⟩; clear HFt; replace HB := aM_ (below_then HB.out HB.out.size hb); replace K1 := aM_ (blk_below K1.out hb); replace HW := aM_ (below_then HW.out HW.out.size hb); replace HRa := aM_ (Kd.C_below HRa.out hb); replace HVa := aM_ (Row25.below HVa.out hb); replace HRb := aM_ (Kd.C_below HRb.out hb); replace HRp := aM_ (Kd.C_below HRp.out hb); replace HRq := aM_ (Kd.C_below HRq.out hb); replace HRs := aM_ (Kd.C_below HRs.out hb); replace HVs := aM_ (Row25.below HVs.out hb); have HCt := aM_ hcl; have HRt := aM_ hC; clear hcl hC; clear hb) | (go_at_call 57; have hsz := HW.out.size; refine (ledger_Hold.callsS k A0 c0 l id hold n lu eu _ (Kd.C_below HR0.out HB.out) HC0.out HFu.out).mono ?_; rintro e w10 ⟨v, rfl, ho, hb⟩; clear HFu; replace HB := aM_ (below_then HB.out HB.out.size hb); replace K1 := aM_ (blk_below K1.out hb); replace HW := aM_ (below_then HW.out HW.out.size hb); replace HRa := aM_ (Kd.C_below HRa.out hb); replace HVa := aM_ (Row25.below HVa.out hb); replace HRb := aM_ (Kd.C_below HRb.out hb); replace HRp := aM_ (Kd.C_below HRp.out hb); replace HRq := aM_ (Kd.C_below HRq.out hb); replace HRs := aM_ (Kd.C_below HRs.out hb); replace HVs := aM_ (Row25.below HVs.out hb); replace HRt := aM_ (Kd.C_below HRt.out hb); obtain ⟨Au, cu, hv, hcl, hC⟩ := ho.reads; subst hv; have HCu := aM_ hcl; have HRu := aM_ hC; have HXu : Aside0 (lu.length ≤ 9223372036854775807) := ⟨hC.2.1⟩; have HVu := aM_ (row25_of_own ho hsz); clear hsz; clear hcl hC; clear hb ho) | (go_at_call 65; refine (damsonref10_Hold.callsS k A0 c0 l id hold n lv ev _ (Kd.C_below HR0.out HB.out) HC0.out HFv.out).mono ?_; rintro e w11 ⟨Av, cv, rfl, hcl, hC, hb⟩; clear HFv; replace HB := aM_ (below_then HB.out HB.out.size hb); replace K1 := aM_ (blk_below K1.out hb); replace HW := aM_ (below_then HW.out HW.out.size hb); replace HRa := aM_ (Kd.C_below HRa.out hb); replace HVa := aM_ (Row25.below HVa.out hb); replace HRb := aM_ (Kd.C_below HRb.out hb); replace HRp := aM_ (Kd.C_below HRp.out hb); replace HRq := aM_ (Kd.C_below HRq.out hb); replace HRs := aM_ (Kd.C_below HRs.out hb); replace HVs := aM_ (Row25.below HVs.out hb); replace HRt := aM_ (Kd.C_below HRt.out hb); replace HRu := aM_ (Kd.C_below HRu.out hb); replace HVu := aM_ (Row25.below HVu.out hb); have HCv := aM_ hcl; have HRv := aM_ hC; clear hcl hC; clear hb) | (go_at_call 58; have hsz := HW.out.size; refine (ledger_End.callsS k A0 c0 l hold paid ly ny ey _ (Kd.C_below HR0.out HB.out) HC0.out HFy.out).mono ?_; rintro e w12 ⟨v, rfl, ho, hb⟩; clear HFy; replace HB := aM_ (below_then HB.out HB.out.size hb); replace K1 := aM_ (blk_below K1.out hb); replace HW := aM_ (below_then HW.out HW.out.size hb); replace HRa := aM_ (Kd.C_below HRa.out hb); replace HVa := aM_ (Row25.below HVa.out hb); replace HRb := aM_ (Kd.C_below HRb.out hb); replace HRp := aM_ (Kd.C_below HRp.out hb); replace HRq := aM_ (Kd.C_below HRq.out hb); replace HRs := aM_ (Kd.C_below HRs.out hb); replace HVs := aM_ (Row25.below HVs.out hb); replace HRt := aM_ (Kd.C_below HRt.out hb); replace HRu := aM_ (Kd.C_below HRu.out hb); replace HVu := aM_ (Row25.below HVu.out hb); replace HRv := aM_ (Kd.C_below HRv.out hb); obtain ⟨Ay, cy, hv, hcl, hC⟩ := ho.reads; subst hv; have HCy := aM_ hcl; have HRy := aM_ hC; have HXy : Aside0 (ly.length ≤ 9223372036854775807) := ⟨hC.2.1⟩; have HVy := aM_ (row25_of_own ho hsz); clear hsz; clear hcl hC; clear hb ho) | (go_at_call 66; refine (damsonref10_End.callsS k A0 c0 l hold paid lz nz ez _ (Kd.C_below HR0.out HB.out) HC0.out HFz.out).mono ?_; rintro e w13 ⟨Az, cz, rfl, hcl, hC, hb⟩; clear HFz; replace HB := aM_ (below_then HB.out HB.out.size hb); replace K1 := aM_ (blk_below K1.out hb); replace HW := aM_ (below_then HW.out HW.out.size hb); replace HRa := aM_ (Kd.C_below HRa.out hb); replace HVa := aM_ (Row25.below HVa.out hb); replace HRb := aM_ (Kd.C_below HRb.out hb); replace HRp := aM_ (Kd.C_below HRp.out hb); replace HRq := aM_ (Kd.C_below HRq.out hb); replace HRs := aM_ (Kd.C_below HRs.out hb); replace HVs := aM_ (Row25.below HVs.out hb); replace HRt := aM_ (Kd.C_below HRt.out hb); replace HRu := aM_ (Kd.C_below HRu.out hb); replace HVu := aM_ (Row25.below HVu.out hb); replace HRv := aM_ (Kd.C_below HRv.out hb); replace HRy := aM_ (Kd.C_below HRy.out hb); replace HVy := aM_ (Row25.below HVy.out hb); have HCz := aM_ hcl; have HRz := aM_ hC; clear hcl hC; clear hb) | (go_at_call 56; refine (damsonref10_Same.calls k Aa ca la Ab cb lb true _ HRa.out HCa.out HRb.out HCb.out HFm1.out).mono ?_; rintro e w14 ⟨rfl, hb⟩; clear HFm1; replace HB := aM_ (below_then HB.out HB.out.size hb); replace K1 := aM_ (blk_below K1.out hb); replace HW := aM_ (below_then HW.out HW.out.size hb); replace HRa := aM_ (Kd.C_below HRa.out hb); replace HVa := aM_ (Row25.below HVa.out hb); replace HRb := aM_ (Kd.C_below HRb.out hb); replace HRp := aM_ (Kd.C_below HRp.out hb); replace HRq := aM_ (Kd.C_below HRq.out hb); replace HRs := aM_ (Kd.C_below HRs.out hb); replace HVs := aM_ (Row25.below HVs.out hb); replace HRt := aM_ (Kd.C_below HRt.out hb); replace HRu := aM_ (Kd.C_below HRu.out hb); replace HVu := aM_ (Row25.below HVu.out hb); replace HRv := aM_ (Kd.C_below HRv.out hb); replace HRy := aM_ (Kd.C_below HRy.out hb); replace HVy := aM_ (Row25.below HVy.out hb); replace HRz := aM_ (Kd.C_below HRz.out hb); clear hb) | (go_at_call 56; refine (damsonref10_Same.calls k Ap cp lp Aq cq lq true _ HRp.out HCp.out HRq.out HCq.out HFm2.out).mono ?_; rintro e w15 ⟨rfl, hb⟩; clear HFm2; replace HB := aM_ (below_then HB.out HB.out.size hb); replace K1 := aM_ (blk_below K1.out hb); replace HW := aM_ (below_then HW.out HW.out.size hb); replace HRa := aM_ (Kd.C_below HRa.out hb); replace HVa := aM_ (Row25.below HVa.out hb); replace HRb := aM_ (Kd.C_below HRb.out hb); replace HRp := aM_ (Kd.C_below HRp.out hb); replace HRq := aM_ (Kd.C_below HRq.out hb); replace HRs := aM_ (Kd.C_below HRs.out hb); replace HVs := aM_ (Row25.below HVs.out hb); replace HRt := aM_ (Kd.C_below HRt.out hb); replace HRu := aM_ (Kd.C_below HRu.out hb); replace HVu := aM_ (Row25.below HVu.out hb); replace HRv := aM_ (Kd.C_below HRv.out hb); replace HRy := aM_ (Kd.C_below HRy.out hb); replace HVy := aM_ (Row25.below HVy.out hb); replace HRz := aM_ (Kd.C_below HRz.out hb); clear hb) | (go_at_call 56; refine (damsonref10_Same.calls k As cs ls At ct lt true _ HRs.out HCs.out HRt.out HCt.out HFm3.out).mono ?_; rintro e w16 ⟨rfl, hb⟩; clear HFm3; replace HB := aM_ (below_then HB.out HB.out.size hb); replace K1 := aM_ (blk_below K1.out hb); replace HW := aM_ (below_then HW.out HW.out.size hb); replace HRa := aM_ (Kd.C_below HRa.out hb); replace HVa := aM_ (Row25.below HVa.out hb); replace HRb := aM_ (Kd.C_below HRb.out hb); replace HRp := aM_ (Kd.C_below HRp.out hb); replace HRq := aM_ (Kd.C_below HRq.out hb); replace HRs := aM_ (Kd.C_below HRs.out hb); replace HVs := aM_ (Row25.below HVs.out hb); replace HRt := aM_ (Kd.C_below HRt.out hb); replace HRu := aM_ (Kd.C_below HRu.out hb); replace HVu := aM_ (Row25.below HVu.out hb); replace HRv := aM_ (Kd.C_below HRv.out hb); replace HRy := aM_ (Kd.C_below HRy.out hb); replace HVy := aM_ (Row25.below HVy.out hb); replace HRz := aM_ (Kd.C_below HRz.out hb); clear hb) | (go_at_call 56; refine (damsonref10_Same.calls k Au cu lu Av cv lv true _ HRu.out HCu.out HRv.out HCv.out HFm4.out).mono ?_; rintro e w17 ⟨rfl, hb⟩; clear HFm4; replace HB := aM_ (below_then HB.out HB.out.size hb); replace K1 := aM_ (blk_below K1.out hb); replace HW := aM_ (below_then HW.out HW.out.size hb); replace HRa := aM_ (Kd.C_below HRa.out hb); replace HVa := aM_ (Row25.below HVa.out hb); replace HRb := aM_ (Kd.C_below HRb.out hb); replace HRp := aM_ (Kd.C_below HRp.out hb); replace HRq := aM_ (Kd.C_below HRq.out hb); replace HRs := aM_ (Kd.C_below HRs.out hb); replace HVs := aM_ (Row25.below HVs.out hb); replace HRt := aM_ (Kd.C_below HRt.out hb); replace HRu := aM_ (Kd.C_below HRu.out hb); replace HVu := aM_ (Row25.below HVu.out hb); replace HRv := aM_ (Kd.C_below HRv.out hb); replace HRy := aM_ (Kd.C_below HRy.out hb); replace HVy := aM_ (Row25.below HVy.out hb); replace HRz := aM_ (Kd.C_below HRz.out hb); clear hb) | (go_at_call 56; refine (damsonref10_Same.calls k Ay cy ly Az cz lz true _ HRy.out HCy.out HRz.out HCz.out HFm5.out).mono ?_; rintro e w18 ⟨rfl, hb⟩; clear HFm5; replace HB := aM_ (below_then HB.out HB.out.size hb); replace K1 := aM_ (blk_below K1.out hb); replace HW := aM_ (below_then HW.out HW.out.size hb); replace HRa := aM_ (Kd.C_below HRa.out hb); replace HVa := aM_ (Row25.below HVa.out hb); replace HRb := aM_ (Kd.C_below HRb.out hb); replace HRp := aM_ (Kd.C_below HRp.out hb); replace HRq := aM_ (Kd.C_below HRq.out hb); replace HRs := aM_ (Kd.C_below HRs.out hb); replace HVs := aM_ (Row25.below HVs.out hb); replace HRt := aM_ (Kd.C_below HRt.out hb); replace HRu := aM_ (Kd.C_below HRu.out hb); replace HVu := aM_ (Row25.below HVu.out hb); replace HRv := aM_ (Kd.C_below HRv.out hb); replace HRy := aM_ (Kd.C_below HRy.out hb); replace HVy := aM_ (Row25.below HVy.out hb); replace HRz := aM_ (Kd.C_below HRz.out hb); clear hb))
  have HI0 := aM_ (four25 HW.out HXa.out HXs.out HXu.out HXy.out HVa.out HVs.out HVu.out HVy.out)
  clear HVa HVs HVu HVy HXa HXs HXu HXy HRa HRb HRp HRq HRs HRt HRu HRv HRy HRz HCa HCb HCp HCq HCs HCt HCu HCv HCy HCz HW HB K1
  go_loopw [183] (fun v_ wr => ∃ i : Nat, i ≤ 4 ∧ v_ = .int .i64 i ∧ Aside0 (Inv10 w3 #[.slice Aa la.length ca, .slice As ls.length cs, .slice Au lu.length cu, .slice Ay ly.length cy] w18.heap.size wr)) (fun v_ _ => 4 - (intOf v_).toNat)
  case atStart => exact ⟨0, Nat.zero_le _, rfl, HI0⟩
  case round =>
   obtain ⟨i, hi, rfl, HI⟩ := hrel
   by_cases hil : i < 4
   · obtain ⟨A_, n_, c_, hq, hm, hrow⟩ := HI.out.rows i hil
     have hcl : wr.cell? ⟨w18.heap.size, i, none⟩ = some (.slice A_ n_ c_) := (blk_cell HI.out.blk i).trans hq
     have HRo := aM_ hrow
     clear hrow hq
     go_wp2
     go_loopw [189] (fun v_ wr2 => ∃ j : Nat, j ≤ n_ ∧ v_ = .int .i64 j ∧ Aside0 (Inv10 w3 #[.slice Aa la.length ca, .slice As ls.length cs, .slice Au lu.length cu, .slice Ay ly.length cy] w18.heap.size wr2) ∧ Aside0 (Row25 wr2 w3.heap.size (.slice A_ n_ c_) n_)) (fun v_ _ => n_ - (intOf v_).toNat)
     case atStart => exact ⟨0, Nat.zero_le _, rfl, HI, HRo⟩
     case round =>
      obtain ⟨j, hj, rfl, HJ, HRo2⟩ := hrel
      by_cases hjl : j < n_
      · rcases HRo2.out with h0 | ⟨g, cg, cur, hv, hbg, hblk, hcells⟩
        · omega
        · injection hv with hv1 hv2 hv3
          subst hv1
          clear hv2 hv3
          obtain ⟨⟨z, hz⟩, A1_, m_, c1_, hq5, hm5, hrow5⟩ := hcells j hjl
          have hx0 : wr.cell? ⟨g, j * 7 + 1, none⟩ = some (.int .u64 z) := (blk_cell hblk _).trans hz
          have hxf : wr.frozen? ⟨g, j * 7 + 1, none⟩ = false := blk_frozen hblk _
          have HN := aM_ (fun z' => HJ.out.put25 hblk hbg j z')
          have HN2 := aM_ (fun z' => HRo2.out.put25 hblk j z')
          have HN3 := aM_ (fun z' : Int => (Slot25.put25 ⟨cur, hblk, hq5⟩ (j * 7 + 1) (.int .u64 z') (by omega) : Slot25 _ g (j * 7 + 5) (.slice A1_ m_ c1_)))
          have HN4 := aM_ (fun z' : Int => hrow5.far hblk (j * 7 + 1) (.int .u64 z'))
          have hxc : ∀ z' : Int, (wr.setCell ⟨g, j * 7 + 1, none⟩ (.int .u64 z')).cell? ⟨g, j * 7 + 5, none⟩ = some (.slice A1_ m_ c1_) := fun z' => (HN3.out z').cell
          clear hcells hblk hbg hz hq5 hrow5
          go_wp2
          go_loopw [206] (fun v_ wr3 => ∃ m : Nat, m ≤ m_ ∧ v_ = .int .i64 m ∧ Aside0 (Inv10 w3 #[.slice Aa la.length ca, .slice As ls.length cs, .slice Au lu.length cu, .slice Ay ly.length cy] w18.heap.size wr3) ∧ Aside0 (Row25 wr3 w3.heap.size (.slice (some ⟨g, 0, none⟩) n_ c_) n_) ∧ Aside0 (Slot25 wr3 g (j * 7 + 5) (.slice A1_ m_ c1_)) ∧ Aside0 (Row44 wr3 w3.heap.size (.slice A1_ m_ c1_) m_)) (fun v_ _ => m_ - (intOf v_).toNat)
          case atStart => exact ⟨0, Nat.zero_le _, rfl, ⟨HN.out _⟩, ⟨HN2.out _⟩, ⟨HN3.out _⟩, ⟨HN4.out _⟩⟩
          case round =>
           obtain ⟨m, hm2, rfl, HK_, HRo3, HSl, HR44⟩ := hrel
           by_cases hml : m < m_
           · rcases HR44.out with h0 | ⟨gx, cx, curx, hvx, hbx, hblx, hcx⟩
             · omega
             · injection hvx with hvx1 hvx2 hvx3
               subst hvx1
               clear hvx2 hvx3
               obtain ⟨z2, hz2⟩ := hcx m hml
               have hcl5 := HSl.out.cell
               have hx2 : wr.cell? ⟨gx, m * 2 + 1, none⟩ = some (.int .u64 z2) := (blk_cell hblx _).trans hz2
               have hxf2 : wr.frozen? ⟨gx, m * 2 + 1, none⟩ = false := blk_frozen hblx _
               have HP := aM_ (fun z' => HK_.out.put44 hblx hbx (m * 2 + 1) z')
               have HP2 := aM_ (fun z' => HRo3.out.put44 hblx (m * 2 + 1) z')
               have HP3 := aM_ (fun z' => HSl.out.put44 hblx (m * 2 + 1) z')
               have HP4 := aM_ (fun z' => HR44.out.put hblx (m * 2 + 1) z')
               clear hcx hblx hbx hz2
               go_wp2
               go_roundw
               case rel => exact ⟨m + 1, by omega, by go_num, ⟨HP.out _⟩, ⟨HP2.out _⟩, ⟨HP3.out _⟩, ⟨HP4.out _⟩⟩
               case measure => simp [intOf]; omega
           · obtain rfl : m = m_ := by omega
             go_wp2
             go_roundw
             case rel => exact ⟨j + 1, by omega, by go_num, HK_, HRo3⟩
             case measure => simp [intOf]; omega
      · obtain rfl : j = n_ := by omega
        go_wp2
        go_roundw
        case rel => exact ⟨i + 1, by omega, by go_num, HJ⟩
        case measure => simp [intOf]; omega
   · obtain rfl : i = 4 := by omega
     have HBF := aM_ (below_then HB3.out HB3.out.size HI.out.bel)
     go_wp2_with (go_at_call 56; refine (damsonref10_Same.calls k A0 c0 l Aw cw lw true _ (Kd.C_below HR0.out HBF.out) HC0.out (Kd.C_below HRw.out HI.out.bel) HCw.out HFm6.out).mono ?_; rintro e wz ⟨rfl, hd⟩; have HBG := aM_ (below_then HBF.out HBF.out.size hd); clear hd)
     go_ret
     exact ⟨rfl, HBG.out⟩
theorem damsonlaw10_LedgerDoes.calls (k : Nat) (A0 : Option Addr) (c0 : Nat) (l0 : List S25) (a1_0 a1_1 a1_2 a1_3 a1_4 : Int) (A1_5 : Option Addr) (c1_5 : Nat) (l1_5 : List S44) (a1_6 : Bool) (a2 a3 a4 : Int) (a5 : Bool) (r : Bool) (w : World) (hr0 : Kd.C k25 w A0 l0.length l0) (hc0 : l0.length ≤ c0) (hr1_5 : Kd.C k44 w A1_5 l1_5.length l1_5) (hc1_5 : l1_5.length ≤ c1_5) (h : damsonlaw10_LedgerDoes.f k l0 a1_0 a1_1 a1_2 a1_3 a1_4 l1_5 a1_6 a2 a3 a4 a5 = some r) :
    Calls Try.prog 14 #[.slice A0 l0.length c0, .agg #[.int .u64 a1_0, .int .u64 a1_1, .int .u64 a1_2, .int .u64 a1_3, .int .u64 a1_4, .slice A1_5 l1_5.length c1_5, .bool a1_6], .int .u64 a2, .int .u64 a3, .int .u64 a4, .bool a5] w fun e w' => e = .returned (.bool r) ∧ Below w.heap.size w w' :=
  damsonlaw10_LedgerDoes.callsS k A0 c0 l0 ⟨a1_0, a1_1, a1_2, a1_3, a1_4, l1_5, a1_6⟩ A1_5 c1_5 a2 a3 a4 a5 r w hr0 hc0 hr1_5 hc1_5 h


/-- THE ONE PURE STATEMENT of damsonlaw10_LedgerDoes: yours. -/
def damsonlaw10_LedgerDoes.Pure : Prop := ∀ (l0 : List (S25)) (s1 : S25) (a2 : Int) (a3 : Int) (a4 : Int) (a5 : Bool), (l0.length ≤ 9223372036854775807 ∧ ∀ y_ ∈ l0, G25 y_) → G25 s1 → (Lit.int .u64 a2).wf = true → (Lit.int .u64 a3).wf = true → (Lit.int .u64 a4).wf = true → ∃ k, damsonlaw10_LedgerDoes.f k l0 (s1.f0) (s1.f1) (s1.f2) (s1.f3) (s1.f4) (s1.f5) (s1.f6) a2 a3 a4 a5 = some true
theorem damsonlaw10_LedgerDoes.walk (P : damsonlaw10_LedgerDoes.Pure) (w : World) (l0 : List (S25)) (A0 : Option Addr) (c0 : Nat) (hr0 : Kd.C k25 w A0 l0.length l0) (hc0 : l0.length ≤ c0) (g0 : l0.length ≤ 9223372036854775807 ∧ ∀ y_ ∈ l0, G25 y_) (s1 : S25) (A1_5 : Option Addr) (c1_5 : Nat) (hr1_5 : Kd.C k44 w A1_5 (s1.f5).length (s1.f5)) (hc1_5 : (s1.f5).length ≤ c1_5) (g1 : G25 s1) (a2 : Int) (g2 : (Lit.int .u64 a2).wf = true) (a3 : Int) (g3 : (Lit.int .u64 a3).wf = true) (a4 : Int) (g4 : (Lit.int .u64 a4).wf = true) (a5 : Bool) :
    Calls Try.prog 14 #[.slice A0 l0.length c0, .agg #[.int .u64 (s1.f0), .int .u64 (s1.f1), .int .u64 (s1.f2), .int .u64 (s1.f3), .int .u64 (s1.f4), .slice A1_5 (s1.f5).length c1_5, .bool (s1.f6)], .int .u64 a2, .int .u64 a3, .int .u64 a4, .bool a5] w fun e w' => e = .returned (.bool true) ∧ Below w.heap.size w w' := by
  obtain ⟨k, h⟩ := P l0 s1 a2 a3 a4 a5 g0 g1 g2 g3 g4
  refine (damsonlaw10_LedgerDoes.calls k A0 c0 l0 (s1.f0) (s1.f1) (s1.f2) (s1.f3) (s1.f4) A1_5 c1_5 (s1.f5) (s1.f6) a2 a3 a4 a5 true w hr0 hc0 hr1_5 hc1_5 h).mono ?_
  rintro e w' ⟨rfl, hd⟩
  exact ⟨rfl, hd⟩
end Go.Proofs.Ytcfbcoinbecdfaa.P
