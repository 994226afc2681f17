-- written by a program of this session (wip/print)
import Derived.Test.YtcfbcoinbecdfaaQLkeepsx0
import Derived.Test.YtcfbcoinbecdfaaQLkeepsx3
import Derived.Test.YtcfbcoinbecdfaaQLkeepsx6
import Derived.Test.YtcfbcoinbecdfaaQLkeepsx7
import Derived.Test.YtcfbcoinbecdfaaQLkeepsx8
namespace Go.Proofs.Ytcfbcoinbecdfaa.P
open Go.RowKit Go.Proofs.YtcfbcoinbecdfaaW.PrintWords Go.Proofs.YtcfbcoinbecdfaaW.PrintLast Go.Proofs.YtcfbcoinbecdfaaW.PrintMore
attribute [local go_sem] max2_int min2_int max_two min_two max_three min_three max_four min_four run_sub64_   -- for this text's walks alone
set_option linter.unusedVariables false
set_option linter.unusedSimpArgs false

/-! ### ledger_Push: function 63 (by hand) -/
def ledger_Push.how (k : Nat) (n : Int) (c : S25) : Option (S25 × Int) := (channel_Push.f k c.f0 c.f1 c.f2 c.f3 c.f4 c.f5 c.f6 n).bind fun r => some (⟨r.1, r.2.1, r.2.2.1, r.2.2.2.1, r.2.2.2.2.1, r.2.2.2.2.2.1, r.2.2.2.2.2.2.1⟩, r.2.2.2.2.2.2.2)
set_option maxHeartbeats 16000000 in
set_option maxRecDepth 100000 in
theorem ledger_Push.hows (k : Nat) (n : Int) (b3 : Nat) (w : World) (hb3 : w.cell? ⟨b3, 0, none⟩ = some (.int .u64 n)) :
    HowAt w 114 [.pointer (some ⟨b3, 0, none⟩)] (ledger_Push.how k n) := by
  intro c A1 c1 c2 e2 w1 hb hC hl h
  have HI5 := Aside0.mk hC
  have HL5 := Aside0.mk hl
  replace hb3 := (hb.cell (World.block_lt_of_cell? w _ hb3)).trans hb3
  have hlt3 : b3 < w1.heap.size := World.block_lt_of_cell? w1 _ hb3
  clear hC hl hb
  unfold ledger_Push.how at h
  obtain ⟨⟨r1, r2, r3, r4, r5, r6, r7, r8⟩, h1, h_⟩ := Option.bind_eq_some_iff.mp h
  replace h := h_
  clear h_
  have HF2 := Aside0.mk h1
  clear h1
  injection h with h
  injection h with hh1 hh2
  dsimp only at hh1 hh2
  subst hh1 hh2
  show Calls Try.prog 114 #[.agg #[.int .u64 c.f0, .int .u64 c.f1, .int .u64 c.f2, .int .u64 c.f3, .int .u64 c.f4, .slice A1 c.f5.length c1, .bool c.f6], .pointer (some ⟨b3, 0, none⟩)] w1 _
  go_enter Try.func114, Try.ntmps114
  go_wp2_with (go_at_call 36; have hal := (Below.refl w1.heap.size w1).alloc (Nat.le_refl _) (.cells #[.int .u64 c.f0, .int .u64 c.f1, .int .u64 c.f2, .int .u64 c.f3, .int .u64 c.f4, .slice A1 c.f5.length c1, .bool c.f6] 25); have HB := Aside0.mk (hal.alloc hal.size (.cells #[.int .u64 0, .int .u64 0, .int .u64 0, .int .u64 0, .int .u64 0, .slice none 0 0, .bool false] 25)); have HK5 := Aside0.mk (blk_new2 w1 (.cells #[.int .u64 c.f0, .int .u64 c.f1, .int .u64 c.f2, .int .u64 c.f3, .int .u64 c.f4, .slice A1 c.f5.length c1, .bool c.f6] 25) (.cells #[.int .u64 0, .int .u64 0, .int .u64 0, .int .u64 0, .int .u64 0, .slice none 0 0, .bool false] 25)); refine (channel_Push.calls k c.f0 c.f1 c.f2 c.f3 c.f4 A1 c1 c.f5 c.f6 n r1 r2 r3 r4 r5 r6 r7 r8 _ (Kd.C_below HI5.out HB.out) HL5.out HF2.out).mono ?_; rintro e w3 ⟨v5, rfl, ho, hb⟩; clear HF2; obtain ⟨An, cn, hv⟩ := Kd.R_slice ho; subst hv; have HR := Aside0.mk (Kd.R_bound ho); have HS := Aside0.mk (blk_lt HK5.out); have HS2 := Aside0.mk HB.out.size; replace HB := Aside0.mk (below_then HB.out HB.out.size hb); replace HK5 := Aside0.mk (blk_below HK5.out hb); obtain ⟨hy0, hy1, hy2, hy3, hy4, hy5, hy6, hy7, hy8, hy9, hy10, hy11, hy12, hy13⟩ := cz7_ HK5.out; clear hal ho hb)
  have hR7 := put7_R (w := w3) (g := w1.heap.size + 1) (c := (⟨r1, r2, r3, r4, r5, r6, r7⟩ : S25)) (v := .slice An r6.length cn) HR.out (fun k_ hk => by have := HS.out; omega)
  refine bodyPost_ret (results_ct rfl _ _ (w1.heap.size + 1) 25 #[.int .u64 r1, .int .u64 r2, .int .u64 r3, .int .u64 r4, .int .u64 r5, .slice An r6.length cn, .bool r7] (0, 0) _ rfl (put7_self (w := w3) (c := (⟨r1, r2, r3, r4, r5, r6, r7⟩ : S25)) (v := .slice An r6.length cn) HK5.out) Try.underlying25 rfl (by kernel_rfl)) rfl ?_
  exact ⟨An, cn, rfl, fun _ => ⟨An, cn, rfl, (Kd.R_reads' hR7).2.1, (Kd.R_reads' hR7).2.2, row44_of_R hR7 HS2.out⟩, put7_below (c := (⟨r1, r2, r3, r4, r5, r6, r7⟩ : S25)) (v := .slice An r6.length cn) HB.out (Nat.le_succ _)⟩
def ledger_Push.g (k : Nat) (l : List S25) (id n : Int) : Option (List S25 × Int) := ledger_change.g k l id (ledger_Push.how k n)
set_option maxHeartbeats 16000000 in
set_option maxRecDepth 100000 in
theorem ledger_Push.callsS (k : Nat) (A0 : Option Addr) (c0 : Nat) (l : List S25) (id n : Int) (r : List S25) (er : Int) (w : World) (hr0 : Kd.C k25 w A0 l.length l) (hc0 : l.length ≤ c0) (h : ledger_Push.g k l id n = some (r, er)) :
    Calls Try.prog 63 #[.slice A0 l.length c0, .int .u64 id, .int .u64 n] w fun e w' => ∃ v : Value, e = .returned (.tuple #[v, .int .i64 er]) ∧ Own25 w' w.heap.size v r ∧ Below w.heap.size w w' := by
  have HF := Aside0.mk h
  have HR0 := Aside0.mk hr0
  have HC0 := Aside0.mk hc0
  have HX := Aside0.mk ((Below.refl w.heap.size w).alloc (Nat.le_refl _) (.cells #[.int .u64 n] 22))
  have HX2 := Aside0.mk ((blk_cell (blk_new w (.cells #[.int .u64 n] 22)) 0).trans rfl : (w.alloc (.cells #[.int .u64 n] 22)).cell? ⟨w.heap.size, 0, none⟩ = some (.int .u64 n))
  clear hr0 hc0 h
  go_enter Try.func63, Try.ntmps63
  go_wp2_with (go_at_call 110; refine (ledger_change.callsS_114 k A0 c0 l id (.pointer (some ⟨w.heap.size, 0, none⟩)) (ledger_Push.how k n) r er _ (Kd.C_below HR0.out HX.out) HC0.out (ledger_Push.hows k n w.heap.size _ HX2.out) HF.out).mono ?_; rintro e w1 ⟨v, rfl, ho, hb⟩; have HB := Aside0.mk (below_then HX.out HX.out.size hb); have HO := Aside0.mk (ho.lower HX.out.size); clear HX HX2 ho hb)
  go_ret2
  exact ⟨_, rfl, HO.out, HB.out⟩
theorem ledger_Push.mono_how (n : Int) (c : S25) (k : Nat) : LeO (ledger_Push.how k n c) (ledger_Push.how (k + 1) n c) := by
  unfold ledger_Push.how
  exact LeO.bind (channel_Push.mono _ _ _ _ _ _ _ _ _) (fun _ => LeO.refl _)
theorem ledger_Push.mono_g (l : List S25) (id n : Int) (k : Nat) : LeO (ledger_Push.g k l id n) (ledger_Push.g (k + 1) l id n) := ledger_change.mono_g l id _ _ (fun c => ledger_Push.mono_how n c k) k

/-! ### damsonlaw10_all: function 67 -/
def damsonlaw10_all.l0 : Nat → Int → List (S25) → Int → Int → Option (Int)
  | 0, _, _, _, _ => none
  | k + 1, x3, x8, x9, x10 => if x10 < x9 then (if 0 ≤ x10 then (if x10 < (x8.length : Int) then ((channel_All.f k ((rd_T25 x8 x10).f0) ((rd_T25 x8 x10).f1) ((rd_T25 x8 x10).f2) ((rd_T25 x8 x10).f3) ((rd_T25 x8 x10).f4) ((rd_T25 x8 x10).f5) ((rd_T25 x8 x10).f6)).bind fun bt248 => (if bt248.2 = 0 then (damsonlaw10_all.l0 k (IntKind.u64.wrap (x3 + bt248.1)) x8 x9 (wrap64 (x10 + 1))) else (damsonlaw10_all.l0 k x3 x8 x9 (wrap64 (x10 + 1))))) else (none)) else (none)) else (some x3)
def damsonlaw10_all.f (k : Nat) (l0 : List (S25)) : Option (Int) := damsonlaw10_all.l0 k 0 l0 (l0.length : Int) 0
theorem damsonlaw10_all.mono_l : ∀ k, (∀ y0 y1 y2 y3, LeO (damsonlaw10_all.l0 k y0 y1 y2 y3) (damsonlaw10_all.l0 (k + 1) y0 y1 y2 y3))
  | 0 => fun _ _ _ _ r h => by simp [damsonlaw10_all.l0] at h
  | k + 1 => by
    have ih0 := damsonlaw10_all.mono_l k
    · intro y0 y1 y2 y3
      unfold damsonlaw10_all.l0
      repeat' first
      | (with_reducible exact ih0 _ _ _ _)
      | (with_reducible exact channel_All.mono _ _ _ _ _ _ _ _)
      | (with_reducible exact LeO.refl _)
      | (with_reducible exact LeO.none _)
      | (with_reducible refine LeO.ite ?_ ?_)
      | (with_reducible refine LeO.bind ?_ (fun _ => ?_))
      | exact ih0 _ _ _ _
      | exact channel_All.mono _ _ _ _ _ _ _ _
      | exact LeO.none _
      | refine LeO.ite ?_ ?_
      | refine LeO.bind ?_ (fun _ => ?_)
theorem damsonlaw10_all.mono : ∀ a0 k, LeO (damsonlaw10_all.f k a0) (damsonlaw10_all.f (k + 1) a0) := by
  intro a0 k
  have ih0 := damsonlaw10_all.mono_l k
  unfold damsonlaw10_all.f
  repeat' first
      | (with_reducible exact ih0 _ _ _ _)
      | (with_reducible exact channel_All.mono _ _ _ _ _ _ _ _)
      | (with_reducible exact LeO.refl _)
      | (with_reducible exact LeO.none _)
      | (with_reducible refine LeO.ite ?_ ?_)
      | (with_reducible refine LeO.bind ?_ (fun _ => ?_))
      | exact ih0 _ _ _ _
      | exact channel_All.mono _ _ _ _ _ _ _ _
      | exact LeO.none _
      | refine LeO.ite ?_ ?_
      | refine LeO.bind ?_ (fun _ => ?_)
set_option maxHeartbeats 8000000 in
set_option maxRecDepth 100000 in
theorem damsonlaw10_all.calls (k : Nat) (A0 : Option Addr) (c0 : Nat) (l0 : List (S25)) (r : Int) (w : World) (hr0 : Kd.C k25 w A0 l0.length l0) (hc0 : l0.length ≤ c0) (h : damsonlaw10_all.f k l0 = some r) :
    Calls Try.prog 67 #[.slice A0 l0.length c0] w fun e w' => e = .returned (.int .u64 r) ∧ Below w.heap.size w w' := by
  have hu25 := Try.underlying25
  have HR0 := Aside0.mk hr0
  have HC0 := Aside0.mk hc0
  clear hr0 hc0
  have HB := Aside0.mk (Below.refl w.heap.size w)
  have H : (damsonlaw10_all.l0 k 0 l0 (l0.length : Int) 0) = some r := h
  clear h
  have H' := Aside0.mk H
  clear H
  go_enter Try.func67, Try.ntmps67
  go_wp2
  go_loopg [3, 10] k (fun kq v3 v10 w' => ∃ (x3_1 : Int) (x10_1 : Int), v3 = .int .u64 x3_1 ∧ v10 = .int .i64 x10_1 ∧ Aside0 (damsonlaw10_all.l0 kq x3_1 l0 (l0.length : Int) x10_1 = some r) ∧ Aside0 (kq ≤ k) ∧ Aside0 (Below w.heap.size w w'))
  case atStart => exact ⟨(0), (0), (by first | rfl | (simp; done) | (simp [*]; done)), (by first | rfl | (simp; done) | (simp [*]; done)), H', ⟨Nat.le_refl _⟩, ⟨by repeat (first | (with_reducible first | exact HB.out | apply below_alloc | apply pw_below_drewN | apply below_drew1) | exact HB.out)⟩⟩
  case round =>
    clear H'
    obtain ⟨x3_1, x10_1, rfl, rfl, HA, HK1, HB⟩ := hrel
    cases gk with
    | zero => exact absurd HA.out (by simp [damsonlaw10_all.l0])
    | succ k1 =>
      have H := HA.out
      clear HA
      simp only [damsonlaw10_all.l0] at H
      by_cases c2 : x10_1 < (l0.length : Int)
      · rw [if_pos c2] at H
        have c2b0 : decide (x10_1 < (l0.length : Int)) = true := decide_eq_true c2
        clear c2
        by_cases c3 : 0 ≤ x10_1
        · rw [if_pos c3] at H
          have c3b0 : decide (0 ≤ x10_1) = true := decide_eq_true c3
          clear c3
          by_cases c4 : x10_1 < (l0.length : Int)
          · rw [if_pos c4] at H
            have c4b0 : decide (x10_1 < (l0.length : Int)) = true := decide_eq_true c4
            clear c4
            replace H := Option.bind_eq_some_iff.mp H
            obtain ⟨⟨t248, t249⟩, A50, H⟩ := H
            replace H : (if t249 = 0 then (damsonlaw10_all.l0 k1 (IntKind.u64.wrap (x3_1 + t248)) l0 (l0.length : Int) (wrap64 (x10_1 + 1))) else (damsonlaw10_all.l0 k1 x3_1 l0 (l0.length : Int) (wrap64 (x10_1 + 1)))) = some r := H
            have A5 := Aside0.mk A50
            clear A50
            by_cases c6 : t249 = 0
            · rw [if_pos c6] at H
              have c6b0 : (t249 == 0) = true := beq_iff_eq.mpr c6
              have c6b1 : (t249 != 0) = false := bne_eq_false_iff_eq.mpr c6
              clear c6
              have H' := Aside0.mk H
              clear H
              have p246 : 0 ≤ (x10_1 : Int) := of_decide_eq_true (by first | (with_reducible assumption) | assumption)
              have q246 : x10_1 < (l0.length : Int) := of_decide_eq_true (by first | (with_reducible assumption) | assumption)
              obtain ⟨ad246, A246_5, c246_5, e246, hx246_0, hx246_1, hx246_2, hx246_3, hx246_4, hx246_5, hx246_6, hl246_5, hi246_5⟩ := at_T25 HR0.out x10_1 p246 q246
              cases e246
              replace hx246_0 := (HB.out.cell (World.block_lt_of_cell? w _ hx246_0)).trans hx246_0
              replace hx246_1 := (HB.out.cell (World.block_lt_of_cell? w _ hx246_1)).trans hx246_1
              replace hx246_2 := (HB.out.cell (World.block_lt_of_cell? w _ hx246_2)).trans hx246_2
              replace hx246_3 := (HB.out.cell (World.block_lt_of_cell? w _ hx246_3)).trans hx246_3
              replace hx246_4 := (HB.out.cell (World.block_lt_of_cell? w _ hx246_4)).trans hx246_4
              replace hx246_5 := (HB.out.cell (World.block_lt_of_cell? w _ hx246_5)).trans hx246_5
              replace hx246_6 := (HB.out.cell (World.block_lt_of_cell? w _ hx246_6)).trans hx246_6
              have HR246_5 := Aside0.mk hi246_5
              have HC246_5 := Aside0.mk hl246_5
              clear hi246_5 hl246_5
              replace p246 := eq_true p246
              replace q246 := eq_true q246
              go_wp2_with (first | ((with_reducible refine gate_dst (N := 5) rfl ?_); refine box_event ?hg (N := 5) ?hd (cs := #[.int .u64 0, .int .u64 0, .int .u64 0, .int .u64 0, .int .u64 0, .slice none 0 0, .bool false]) (t := 25) ?hr ?_; (case hd => rfl); (case hg => rfl); (case hr => first | (go_simp; done) | (go_simp; rfl)); intro gb247 hg w7 hbox hb; have n0_ := Aside0.mk (below_step (belN HB) hb); have n1_ := Aside0.mk (hbox); have n2_ := Aside0.mk ((by rw [hg]; exact (below_size (belN HB)) : w.heap.size ≤ gb247)); have n3_ := Aside0.mk ((by rw [hg]; exact (below_size (belN HB)) : w.heap.size ≤ gb247)); clear HB; have HB := n0_; have BK247 := n1_; have GW247 := n2_; have GE247 := n3_; clear n0_ n1_ n2_ n3_; clear hb hbox hg; obtain ⟨hcz8_0, hcz8_1, hcz8_2, hcz8_3, hcz8_4, hcz8_5, hcz8_6, hfz8_0, hfz8_1, hfz8_2, hfz8_3, hfz8_4, hfz8_5, hfz8_6⟩ := cz7_ (w := w7) BK247.out) | ((with_reducible refine gate_callee (f := 30) rfl ?_); refine goesL_ (some 16) rfl rfl Try.func30 (by kernel_rfl) rfl #[.agg #[.int .u64 ((rd_T25 l0 x10_1).f0), .int .u64 ((rd_T25 l0 x10_1).f1), .int .u64 ((rd_T25 l0 x10_1).f2), .int .u64 ((rd_T25 l0 x10_1).f3), .int .u64 ((rd_T25 l0 x10_1).f4), .slice A246_5 ((rd_T25 l0 x10_1).f5).length c246_5, .bool ((rd_T25 l0 x10_1).f6)]] rfl (by (try simp only [List.map_toArray, List.map_cons, List.map_nil]); first | done | rfl | (simp only [List.length_drop, List.length_take]; rfl)) ?_; (with_reducible refine (channel_All.calls k1 ((rd_T25 l0 x10_1).f0) ((rd_T25 l0 x10_1).f1) ((rd_T25 l0 x10_1).f2) ((rd_T25 l0 x10_1).f3) ((rd_T25 l0 x10_1).f4) _ _ ((rd_T25 l0 x10_1).f5) ((rd_T25 l0 x10_1).f6) t248 t249 _ ?side1 ?side2 A5.out).mono ?_); (case side1 => exact Kd.C_below HR246_5.out (belN HB)); (case side2 => exact HC246_5.out); rintro e w9 ⟨rfl, hb⟩; refine ⟨_, rfl, ?_⟩; have n0_ := Aside0.mk (blk_below (g := gb247) (o := .cells #[.int .u64 ((rd_T25 l0 x10_1).f0), .int .u64 ((rd_T25 l0 x10_1).f1), .int .u64 ((rd_T25 l0 x10_1).f2), .int .u64 ((rd_T25 l0 x10_1).f3), .int .u64 ((rd_T25 l0 x10_1).f4), .slice A246_5 ((rd_T25 l0 x10_1).f5).length c246_5, .bool ((rd_T25 l0 x10_1).f6)] 25 (0, 0)) (by (with_reducible repeat (first | refine blk_drewN ?_ _ | refine blk_drew ?_ | refine blk_alloc ?_ _)); refine blk_put (cs := #[.int .u64 ((rd_T25 l0 x10_1).f0), .int .u64 ((rd_T25 l0 x10_1).f1), .int .u64 ((rd_T25 l0 x10_1).f2), .int .u64 ((rd_T25 l0 x10_1).f3), .int .u64 ((rd_T25 l0 x10_1).f4), .slice A246_5 ((rd_T25 l0 x10_1).f5).length c246_5, .bool false]) ?_ 6 _ rfl; refine blk_put (cs := #[.int .u64 ((rd_T25 l0 x10_1).f0), .int .u64 ((rd_T25 l0 x10_1).f1), .int .u64 ((rd_T25 l0 x10_1).f2), .int .u64 ((rd_T25 l0 x10_1).f3), .int .u64 ((rd_T25 l0 x10_1).f4), .slice none 0 0, .bool false]) ?_ 5 _ rfl; refine blk_put (cs := #[.int .u64 ((rd_T25 l0 x10_1).f0), .int .u64 ((rd_T25 l0 x10_1).f1), .int .u64 ((rd_T25 l0 x10_1).f2), .int .u64 ((rd_T25 l0 x10_1).f3), .int .u64 0, .slice none 0 0, .bool false]) ?_ 4 _ rfl; refine blk_put (cs := #[.int .u64 ((rd_T25 l0 x10_1).f0), .int .u64 ((rd_T25 l0 x10_1).f1), .int .u64 ((rd_T25 l0 x10_1).f2), .int .u64 0, .int .u64 0, .slice none 0 0, .bool false]) ?_ 3 _ rfl; refine blk_put (cs := #[.int .u64 ((rd_T25 l0 x10_1).f0), .int .u64 ((rd_T25 l0 x10_1).f1), .int .u64 0, .int .u64 0, .int .u64 0, .slice none 0 0, .bool false]) ?_ 2 _ rfl; refine blk_put (cs := #[.int .u64 ((rd_T25 l0 x10_1).f0), .int .u64 0, .int .u64 0, .int .u64 0, .int .u64 0, .slice none 0 0, .bool false]) ?_ 1 _ rfl; refine blk_put (cs := #[.int .u64 0, .int .u64 0, .int .u64 0, .int .u64 0, .int .u64 0, .slice none 0 0, .bool false]) ?_ 0 _ rfl; (with_reducible repeat (first | refine blk_drewN ?_ _ | refine blk_drew ?_ | refine blk_alloc ?_ _)); exact BK247.out) hb); have n1_ := Aside0.mk (below_step (belN HB) hb); clear BK247; clear HB; have BK247 := n0_; have HB := n1_; clear n0_ n1_; (try clear hb); (try clear hb2); (try clear hk); (try clear hi)))
              go_roundg k1
              case measure => have := HK1.out; omega
              case rel => exact ⟨(IntKind.u64.wrap (x3_1 + t248)), (wrap64 (x10_1 + 1)), (by first | rfl | (simp; done) | (simp [*]; done)), (by first | rfl | (simp; done) | (simp [*]; done)), H', ⟨by have := HK1.out; omega⟩, ⟨by repeat (first | (with_reducible first | exact HB.out | apply below_alloc | apply pw_below_drewN | apply below_drew1 | refine below_set ?_ GE247.out) | exact HB.out)⟩⟩
            · rw [if_neg c6] at H
              have c6b0 : (t249 == 0) = false := beq_eq_false_iff_ne.mpr c6
              have c6b1 : (t249 != 0) = true := bne_iff_ne.mpr c6
              have H' := Aside0.mk H
              clear H
              have p246 : 0 ≤ (x10_1 : Int) := of_decide_eq_true (by first | (with_reducible assumption) | assumption)
              have q246 : x10_1 < (l0.length : Int) := of_decide_eq_true (by first | (with_reducible assumption) | assumption)
              obtain ⟨ad246, A246_5, c246_5, e246, hx246_0, hx246_1, hx246_2, hx246_3, hx246_4, hx246_5, hx246_6, hl246_5, hi246_5⟩ := at_T25 HR0.out x10_1 p246 q246
              cases e246
              replace hx246_0 := (HB.out.cell (World.block_lt_of_cell? w _ hx246_0)).trans hx246_0
              replace hx246_1 := (HB.out.cell (World.block_lt_of_cell? w _ hx246_1)).trans hx246_1
              replace hx246_2 := (HB.out.cell (World.block_lt_of_cell? w _ hx246_2)).trans hx246_2
              replace hx246_3 := (HB.out.cell (World.block_lt_of_cell? w _ hx246_3)).trans hx246_3
              replace hx246_4 := (HB.out.cell (World.block_lt_of_cell? w _ hx246_4)).trans hx246_4
              replace hx246_5 := (HB.out.cell (World.block_lt_of_cell? w _ hx246_5)).trans hx246_5
              replace hx246_6 := (HB.out.cell (World.block_lt_of_cell? w _ hx246_6)).trans hx246_6
              have HR246_5 := Aside0.mk hi246_5
              have HC246_5 := Aside0.mk hl246_5
              clear hi246_5 hl246_5
              replace p246 := eq_true p246
              replace q246 := eq_true q246
              go_wp2_with (first | ((with_reducible refine gate_dst (N := 5) rfl ?_); refine box_event ?hg (N := 5) ?hd (cs := #[.int .u64 0, .int .u64 0, .int .u64 0, .int .u64 0, .int .u64 0, .slice none 0 0, .bool false]) (t := 25) ?hr ?_; (case hd => rfl); (case hg => rfl); (case hr => first | (go_simp; done) | (go_simp; rfl)); intro gb247 hg w10 hbox hb; have n0_ := Aside0.mk (below_step (belN HB) hb); have n1_ := Aside0.mk (hbox); have n2_ := Aside0.mk ((by rw [hg]; exact (below_size (belN HB)) : w.heap.size ≤ gb247)); have n3_ := Aside0.mk ((by rw [hg]; exact (below_size (belN HB)) : w.heap.size ≤ gb247)); clear HB; have HB := n0_; have BK247 := n1_; have GW247 := n2_; have GE247 := n3_; clear n0_ n1_ n2_ n3_; clear hb hbox hg; obtain ⟨hcz11_0, hcz11_1, hcz11_2, hcz11_3, hcz11_4, hcz11_5, hcz11_6, hfz11_0, hfz11_1, hfz11_2, hfz11_3, hfz11_4, hfz11_5, hfz11_6⟩ := cz7_ (w := w10) BK247.out) | ((with_reducible refine gate_callee (f := 30) rfl ?_); refine goesL_ (some 16) rfl rfl Try.func30 (by kernel_rfl) rfl #[.agg #[.int .u64 ((rd_T25 l0 x10_1).f0), .int .u64 ((rd_T25 l0 x10_1).f1), .int .u64 ((rd_T25 l0 x10_1).f2), .int .u64 ((rd_T25 l0 x10_1).f3), .int .u64 ((rd_T25 l0 x10_1).f4), .slice A246_5 ((rd_T25 l0 x10_1).f5).length c246_5, .bool ((rd_T25 l0 x10_1).f6)]] rfl (by (try simp only [List.map_toArray, List.map_cons, List.map_nil]); first | done | rfl | (simp only [List.length_drop, List.length_take]; rfl)) ?_; (with_reducible refine (channel_All.calls k1 ((rd_T25 l0 x10_1).f0) ((rd_T25 l0 x10_1).f1) ((rd_T25 l0 x10_1).f2) ((rd_T25 l0 x10_1).f3) ((rd_T25 l0 x10_1).f4) _ _ ((rd_T25 l0 x10_1).f5) ((rd_T25 l0 x10_1).f6) t248 t249 _ ?side1 ?side2 A5.out).mono ?_); (case side1 => exact Kd.C_below HR246_5.out (belN HB)); (case side2 => exact HC246_5.out); rintro e w12 ⟨rfl, hb⟩; refine ⟨_, rfl, ?_⟩; have n0_ := Aside0.mk (blk_below (g := gb247) (o := .cells #[.int .u64 ((rd_T25 l0 x10_1).f0), .int .u64 ((rd_T25 l0 x10_1).f1), .int .u64 ((rd_T25 l0 x10_1).f2), .int .u64 ((rd_T25 l0 x10_1).f3), .int .u64 ((rd_T25 l0 x10_1).f4), .slice A246_5 ((rd_T25 l0 x10_1).f5).length c246_5, .bool ((rd_T25 l0 x10_1).f6)] 25 (0, 0)) (by (with_reducible repeat (first | refine blk_drewN ?_ _ | refine blk_drew ?_ | refine blk_alloc ?_ _)); refine blk_put (cs := #[.int .u64 ((rd_T25 l0 x10_1).f0), .int .u64 ((rd_T25 l0 x10_1).f1), .int .u64 ((rd_T25 l0 x10_1).f2), .int .u64 ((rd_T25 l0 x10_1).f3), .int .u64 ((rd_T25 l0 x10_1).f4), .slice A246_5 ((rd_T25 l0 x10_1).f5).length c246_5, .bool false]) ?_ 6 _ rfl; refine blk_put (cs := #[.int .u64 ((rd_T25 l0 x10_1).f0), .int .u64 ((rd_T25 l0 x10_1).f1), .int .u64 ((rd_T25 l0 x10_1).f2), .int .u64 ((rd_T25 l0 x10_1).f3), .int .u64 ((rd_T25 l0 x10_1).f4), .slice none 0 0, .bool false]) ?_ 5 _ rfl; refine blk_put (cs := #[.int .u64 ((rd_T25 l0 x10_1).f0), .int .u64 ((rd_T25 l0 x10_1).f1), .int .u64 ((rd_T25 l0 x10_1).f2), .int .u64 ((rd_T25 l0 x10_1).f3), .int .u64 0, .slice none 0 0, .bool false]) ?_ 4 _ rfl; refine blk_put (cs := #[.int .u64 ((rd_T25 l0 x10_1).f0), .int .u64 ((rd_T25 l0 x10_1).f1), .int .u64 ((rd_T25 l0 x10_1).f2), .int .u64 0, .int .u64 0, .slice none 0 0, .bool false]) ?_ 3 _ rfl; refine blk_put (cs := #[.int .u64 ((rd_T25 l0 x10_1).f0), .int .u64 ((rd_T25 l0 x10_1).f1), .int .u64 0, .int .u64 0, .int .u64 0, .slice none 0 0, .bool false]) ?_ 2 _ rfl; refine blk_put (cs := #[.int .u64 ((rd_T25 l0 x10_1).f0), .int .u64 0, .int .u64 0, .int .u64 0, .int .u64 0, .slice none 0 0, .bool false]) ?_ 1 _ rfl; refine blk_put (cs := #[.int .u64 0, .int .u64 0, .int .u64 0, .int .u64 0, .int .u64 0, .slice none 0 0, .bool false]) ?_ 0 _ rfl; (with_reducible repeat (first | refine blk_drewN ?_ _ | refine blk_drew ?_ | refine blk_alloc ?_ _)); exact BK247.out) hb); have n1_ := Aside0.mk (below_step (belN HB) hb); clear BK247; clear HB; have BK247 := n0_; have HB := n1_; clear n0_ n1_; (try clear hb); (try clear hb2); (try clear hk); (try clear hi)))
              go_roundg k1
              case measure => have := HK1.out; omega
              case rel => exact ⟨(x3_1), (wrap64 (x10_1 + 1)), (by first | rfl | (simp; done) | (simp [*]; done)), (by first | rfl | (simp; done) | (simp [*]; done)), H', ⟨by have := HK1.out; omega⟩, ⟨by repeat (first | (with_reducible first | exact HB.out | apply below_alloc | apply pw_below_drewN | apply below_drew1 | refine below_set ?_ GE247.out) | exact HB.out)⟩⟩
          · rw [if_neg c4] at H
            exact absurd H (by simp)
        · rw [if_neg c3] at H
          exact absurd H (by simp)
      · rw [if_neg c2] at H
        have c2b0 : decide (x10_1 < (l0.length : Int)) = false := decide_eq_false c2
        clear c2
        obtain rfl := Option.some.inj H
        go_wp2
        go_ret
        exact ⟨by first | rfl | (simp [errW_none, errW_some] <;> rfl) | (simp [*, errW_none, errW_some] <;> rfl), by repeat (first | (with_reducible first | exact HB.out | apply below_alloc | apply pw_below_drewN | apply below_drew1) | exact HB.out)⟩

/-! ### damsonlaw10_LedgerKeeps: function 15 (by hand) -/
def damsonlaw10_LedgerKeeps.one (k : Nat) (l : List S25) (b id hold n : Int) : Option (List S25 × Int) :=
  if b % 5 = 0 ∨ b % 5 = 1 then (ledger_Hold.g k l id hold n).bind fun a => (ledger_Where.f k a.1 hold).bind fun q => if a.2 = 0 → q.2 = 0 ∧ q.1 = id then some a else none
  else if b % 5 = 2 then (ledger_End.g k l hold (b % 2 == 0)).bind fun a => (ledger_Where.f k a.1 hold).bind fun q => if a.2.2 = 0 → q.2 = 5 then some (a.1, a.2.2) else none
  else if b % 5 = 3 then ledger_Push.g k l id n else ledger_Close.g k l id
def damsonlaw10_LedgerKeeps.rounds (k : Nat) (all : Int) : List (Int × Int × Int × Int) → List S25 → Option Bool
  | [], _ => some true
  | z :: zs, l => (damsonlaw10_LedgerKeeps.one k l z.1 z.2.1 z.2.2.1 z.2.2.2).bind fun a =>
    if a.2 = 0 then (ledger_Check.f k a.1).bind fun e => (damsonlaw10_all.f k a.1).bind fun s => if e = 0 ∧ s = all ∧ a.1.length = l.length then damsonlaw10_LedgerKeeps.rounds k all zs a.1 else none
    else if a.1.length = 0 then damsonlaw10_LedgerKeeps.rounds k all zs l else none
def damsonlaw10_LedgerKeeps.g (k : Nat) (l : List S25) (l1 l2 l3 l4 : List Int) : Option Bool := (damsonlaw10_live.f k).bind fun t1 => if t1 = true then (damsonref10_Few.f k l).bind fun t2 => if t2 = true then if ¬ 30 < l1.length then (ledger_Check.f k l).bind fun e => if e = 0 then (damsonlaw10_all.f k l).bind fun s => damsonlaw10_LedgerKeeps.rounds k s (l1.zip (l2.zip (l3.zip l4))) l else some true else some true else some true else none
def damsonlaw10_LedgerKeeps.f (k : Nat) (l : List S25) (l1 l2 l3 l4 : List Int) : Option (Bool) := if (l1.all fun y => decide (0 ≤ y ∧ y ≤ 255)) = true then damsonlaw10_LedgerKeeps.g k l l1 l2 l3 l4 else none
theorem damsonlaw10_LedgerKeeps.mono_o (k : Nat) (l : List S25) (m id h n : Int) : LeO (damsonlaw10_LedgerKeeps.one k l m id h n) (damsonlaw10_LedgerKeeps.one (k + 1) l m id h n) := by
  unfold damsonlaw10_LedgerKeeps.one
  repeat' first
    | (with_reducible exact LeO.refl _)
    | apply ledger_Hold.mono_g
    | apply ledger_End.mono_g
    | apply ledger_Push.mono_g
    | apply ledger_Close.mono_g
    | apply ledger_Where.mono
    | (with_reducible refine LeO.ite ?_ ?_)
    | (with_reducible refine LeO.bind ?_ (fun _ => ?_))
theorem damsonlaw10_LedgerKeeps.mono_r (k : Nat) (all : Int) : ∀ zs l, LeO (damsonlaw10_LedgerKeeps.rounds k all zs l) (damsonlaw10_LedgerKeeps.rounds (k + 1) all zs l)
  | [], _ => LeO.refl _
  | z :: zs, l => by
    have ih := damsonlaw10_LedgerKeeps.mono_r k all zs
    unfold damsonlaw10_LedgerKeeps.rounds
    repeat' first
      | (with_reducible exact LeO.refl _)
      | (with_reducible exact ih _)
      | apply damsonlaw10_LedgerKeeps.mono_o
      | apply ledger_Check.mono
      | apply damsonlaw10_all.mono
      | (with_reducible refine LeO.ite ?_ ?_)
      | (with_reducible refine LeO.bind ?_ (fun _ => ?_))
theorem zip4 {l m n p : List Int} {i : Nat} (h : i < l.length) (g : i < m.length) (f : i < n.length) (e : i < p.length) : (l.zip (m.zip (n.zip p))).drop i = (rd l (i : Int), rd m (i : Int), rd n (i : Int), rd p (i : Int)) :: (l.zip (m.zip (n.zip p))).drop (i + 1) := by
  rw [List.drop_eq_getElem_cons (by rw [List.length_zip, List.length_zip, List.length_zip]; omega), List.getElem_zip, List.getElem_zip, List.getElem_zip]
  simp only [rd, Int.toNat_natCast, List.getD_eq_getElem?_getD, List.getElem?_eq_getElem h, List.getElem?_eq_getElem g, List.getElem?_eq_getElem f, List.getElem?_eq_getElem e, Option.getD_some]
theorem damsonlaw10_LedgerKeeps.mono : ∀ l l1 l2 l3 l4 k, LeO (damsonlaw10_LedgerKeeps.f k l l1 l2 l3 l4) (damsonlaw10_LedgerKeeps.f (k + 1) l l1 l2 l3 l4) := by
  intro l l1 l2 l3 l4 k
  unfold damsonlaw10_LedgerKeeps.f damsonlaw10_LedgerKeeps.g
  repeat' first
    | (with_reducible exact LeO.refl _)
    | apply damsonlaw10_live.mono
    | apply damsonref10_Few.mono
    | apply ledger_Check.mono
    | apply damsonlaw10_all.mono
    | apply damsonlaw10_LedgerKeeps.mono_r
    | (with_reducible refine LeO.ite ?_ ?_)
    | (with_reducible refine LeO.bind ?_ (fun _ => ?_))
def damsonlaw10_LedgerKeeps.T16 : Bool × List (List Nat × List Nat) := (true, [([], []), ([], []), ([], []), ([1, 2], [1, 2]), ([3], [3]), ([], []), ([], []), ([5, 6], [5, 6]), ([7], [7]), ([], []), ([], []), ([9, 10], [9, 10]), ([11], [11]), ([0, 4, 8, 12], [0, 4, 8, 12]), ([13], [13]), ([14], [14]), ([14], [14]), ([15, 13, 0, 1, 2, 3, 4, 5, 6, 7, 8, 9, 10, 11, 12, 13, 14, 15], [15]), ([16, 17, 0, 1, 2, 3, 4, 5, 6, 7, 8, 9, 10, 11, 12, 13, 14, 15, 16, 17], [16])])
def damsonlaw10_LedgerKeeps.B16 : List Nat := [0, 0, 0, 6, 14, 0, 0, 96, 224, 0, 0, 1536, 3584, 8191, 16383, 32767, 32767, 65535, 262143]
theorem damsonlaw10_LedgerKeeps.tab16 : rtab .any (opsOf Try.f15 16) = damsonlaw10_LedgerKeeps.T16 := by kernel_rfl
theorem damsonlaw10_LedgerKeeps.bits16 : waitsOk damsonlaw10_LedgerKeeps.T16.2 damsonlaw10_LedgerKeeps.B16 = true := by kernel_rfl
def damsonlaw10_LedgerKeeps.T26 : Bool × List (List Nat × List Nat) := (true, [([], []), ([], []), ([], []), ([1, 2], [1, 2]), ([3], [3]), ([], []), ([], []), ([5, 6], [5, 6]), ([7], [7]), ([0, 4, 8], [0, 4, 8]), ([9], [9]), ([10], [10]), ([10], [10]), ([11, 9, 0, 1, 2, 3, 4, 5, 6, 7, 8, 9, 10, 11], [11]), ([12, 13, 0, 1, 2, 3, 4, 5, 6, 7, 8, 9, 10, 11, 12, 13], [12])])
def damsonlaw10_LedgerKeeps.B26 : List Nat := [0, 0, 0, 6, 14, 0, 0, 96, 224, 511, 1023, 2047, 2047, 4095, 16383]
theorem damsonlaw10_LedgerKeeps.tab26 : rtab .any (opsOf Try.f15 26) = damsonlaw10_LedgerKeeps.T26 := by kernel_rfl
theorem damsonlaw10_LedgerKeeps.bits26 : waitsOk damsonlaw10_LedgerKeeps.T26.2 damsonlaw10_LedgerKeeps.B26 = true := by kernel_rfl
set_option maxHeartbeats 16000000 in
set_option maxRecDepth 100000 in
theorem damsonlaw10_LedgerKeeps.callsS (k : Nat) (A0 : Option Addr) (c0 : Nat) (l : List S25) (A1 : Option Addr) (c1 : Nat) (l1 : List Int) (A2 : Option Addr) (c2 : Nat) (l2 : List Int) (A3 : Option Addr) (c3 : Nat) (l3 : List Int) (A4 : Option Addr) (c4 : Nat) (l4 : List Int) (r : Bool) (w : World) (hr0 : Kd.C k25 w A0 l.length l) (hc0 : l.length ≤ c0) (hr1 : Kd.C (Kd.int .u8) w A1 l1.length l1) (hc1 : l1.length ≤ c1) (hr2 : Kd.C (Kd.int .u64) w A2 l2.length l2) (hc2 : l2.length ≤ c2) (hr3 : Kd.C (Kd.int .u64) w A3 l3.length l3) (hc3 : l3.length ≤ c3) (hr4 : Kd.C (Kd.int .u64) w A4 l4.length l4) (hc4 : l4.length ≤ c4) (hu8 : ∀ y ∈ l1, 0 ≤ y ∧ y ≤ 255) (h : damsonlaw10_LedgerKeeps.g k l l1 l2 l3 l4 = some r) :
    Calls Try.prog 15 #[.slice A0 l.length c0, .slice A1 l1.length c1, .slice A2 l2.length c2, .slice A3 l3.length c3, .slice A4 l4.length c4] w fun e w' => e = .returned (.bool r) ∧ Below w.heap.size w w' := by
  have HR0 := Aside0.mk hr0
  have HC0 := Aside0.mk hc0
  have HR1 := Aside0.mk hr1
  have HC1 := Aside0.mk hc1
  have HR2 := Aside0.mk hr2
  have HC2 := Aside0.mk hc2
  have HR3 := Aside0.mk hr3
  have HC3 := Aside0.mk hc3
  have HR4 := Aside0.mk hr4
  have HC4 := Aside0.mk hc4
  clear hr0 hc0 hr1 hc1 hr2 hc2 hr3 hc3 hr4 hc4
  have HU8 := Aside0.mk hu8
  clear hu8
  have HB := Aside0.mk (Below.refl w.heap.size w)
  unfold damsonlaw10_LedgerKeeps.g at h
  obtain ⟨t1, h1, h_⟩ := Option.bind_eq_some_iff.mp h
  replace h := h_
  clear h_
  have HF1 := Aside0.mk h1
  clear h1
  try dsimp only at h
  by_cases hc : t1 = true
  case neg =>
    rw [if_neg hc] at h
    cases h
  rw [if_pos hc] at h
  subst hc
  obtain ⟨t2, h1, h_⟩ := Option.bind_eq_some_iff.mp h
  replace h := h_
  clear h_
  have HF2 := Aside0.mk h1
  clear h1
  try dsimp only at h
  by_cases hc : t2 = true
  case neg =>
    rw [if_neg hc] at h
    have hb_ : t2 = false := by simpa using hc
    subst hb_
    injection h with h
    subst h
    go_enter Try.func15, Try.ntmps15
    go_wp2_with (first | (go_at_call 44; refine (damsonlaw10_live.calls k _ _ HF1.out).mono ?_; rintro e w1 ⟨rfl, hb⟩; clear HF1; replace HB := Aside0.mk (below_then HB.out HB.out.size hb); clear hb) | (go_at_call 45; refine (damsonref10_Few.calls k A0 c0 l _ _ (Kd.C_below HR0.out HB.out) HC0.out HF2.out).mono ?_; rintro e w2 ⟨rfl, hb⟩; clear HF2; replace HB := Aside0.mk (below_then HB.out HB.out.size hb); clear hb))
    go_ret
    exact ⟨rfl, HB.out⟩
  rw [if_pos hc] at h
  subst hc
  by_cases hc : ¬ 30 < l1.length
  case neg =>
    rw [if_neg hc] at h
    have g1 : decide ((30 : Int) < (l1.length : Int)) = true := decide_eq_true (by omega)
    have g2 : decide (30 < l1.length) = true := decide_eq_true (by omega)
    clear hc
    injection h with h
    subst h
    go_enter Try.func15, Try.ntmps15
    go_wp2_with (first | (go_at_call 44; refine (damsonlaw10_live.calls k _ _ HF1.out).mono ?_; rintro e w1 ⟨rfl, hb⟩; clear HF1; replace HB := Aside0.mk (below_then HB.out HB.out.size hb); clear hb) | (go_at_call 45; refine (damsonref10_Few.calls k A0 c0 l _ _ (Kd.C_below HR0.out HB.out) HC0.out HF2.out).mono ?_; rintro e w2 ⟨rfl, hb⟩; clear HF2; replace HB := Aside0.mk (below_then HB.out HB.out.size hb); clear hb))
    go_ret
    exact ⟨rfl, HB.out⟩
  rw [if_pos hc] at h
  have g1 : decide ((30 : Int) < (l1.length : Int)) = false := decide_eq_false (by omega)
  have g2 : decide (30 < l1.length) = false := decide_eq_false (by omega)
  have hlen : l1.length ≤ 30 := by omega
  clear hc
  obtain ⟨e3, h1, h_⟩ := Option.bind_eq_some_iff.mp h
  replace h := h_
  clear h_
  have HF3 := Aside0.mk h1
  clear h1
  try dsimp only at h
  by_cases hc : e3 = 0
  case neg =>
    rw [if_neg hc] at h
    have he : (e3 != 0) = true := bne_iff_ne.mpr hc
    clear hc
    injection h with h
    subst h
    go_enter Try.func15, Try.ntmps15
    go_wp2_with (first | (go_at_call 44; refine (damsonlaw10_live.calls k _ _ HF1.out).mono ?_; rintro e w1 ⟨rfl, hb⟩; clear HF1; replace HB := Aside0.mk (below_then HB.out HB.out.size hb); clear hb) | (go_at_call 45; refine (damsonref10_Few.calls k A0 c0 l _ _ (Kd.C_below HR0.out HB.out) HC0.out HF2.out).mono ?_; rintro e w2 ⟨rfl, hb⟩; clear HF2; replace HB := Aside0.mk (below_then HB.out HB.out.size hb); clear hb) | (go_at_call 54; refine (ledger_Check.calls k A0 c0 l e3 _ (Kd.C_below HR0.out HB.out) HC0.out HF3.out).mono ?_; rintro e w3 ⟨rfl, hb⟩; clear HF3; replace HB := Aside0.mk (below_then HB.out HB.out.size hb); clear hb))
    go_ret
    exact ⟨rfl, HB.out⟩
  rw [if_pos hc] at h
  subst hc
  obtain ⟨sm, h1, h_⟩ := Option.bind_eq_some_iff.mp h
  replace h := h_
  clear h_
  have HF4 := Aside0.mk h1
  clear h1
  try dsimp only at h
  have hB := Aside0.mk h
  clear h
  go_enter Try.func15, Try.ntmps15
  go_wp2_with (first | (go_at_call 44; refine (damsonlaw10_live.calls k _ _ HF1.out).mono ?_; rintro e w1 ⟨rfl, hb⟩; clear HF1; replace HB := Aside0.mk (below_then HB.out HB.out.size hb); clear hb) | (go_at_call 45; refine (damsonref10_Few.calls k A0 c0 l _ _ (Kd.C_below HR0.out HB.out) HC0.out HF2.out).mono ?_; rintro e w2 ⟨rfl, hb⟩; clear HF2; replace HB := Aside0.mk (below_then HB.out HB.out.size hb); clear hb) | (go_at_call 54; refine (ledger_Check.calls k A0 c0 l 0 _ (Kd.C_below HR0.out HB.out) HC0.out HF3.out).mono ?_; rintro e w3 ⟨rfl, hb⟩; clear HF3; replace HB := Aside0.mk (below_then HB.out HB.out.size hb); clear hb) | (go_at_call 67; refine (damsonlaw10_all.calls k A0 c0 l sm _ (Kd.C_below HR0.out HB.out) HC0.out HF4.out).mono ?_; rintro e w4 ⟨rfl, hb⟩; clear HF4; replace HB := Aside0.mk (below_then HB.out HB.out.size hb); clear hb))
  go_loopw [39, 0] (fun vi v0 wr => ∃ (i : Nat) (l' : List S25) (Ac : Option Addr) (cc : Nat), i ≤ l1.length ∧ vi = .int .i64 i ∧ v0 = .slice Ac l'.length cc ∧ Aside0 (l'.length ≤ cc) ∧ Aside0 (Kd.C k25 wr Ac l'.length l') ∧ Aside0 (Below w.heap.size w wr) ∧ Aside0 (damsonlaw10_LedgerKeeps.rounds k sm ((l1.zip (l2.zip (l3.zip l4))).drop i) l' = some r)) (fun vi _ _ => l1.length - (intOf vi).toNat)
  case atStart => exact ⟨0, l, A0, c0, Nat.zero_le _, rfl, rfl, HC0, ⟨Kd.C_below HR0.out HB.out⟩, HB, ⟨by rw [List.drop_zero]; exact hB.out⟩⟩
  case round =>
   clear HB hB
   obtain ⟨i, lq, Ac, cc, hi, rfl, rfl, HL, HM, HB, HR⟩ := hrel
   by_cases hil : i < l1.length
   case neg =>
    obtain rfl : i = l1.length := by omega
    have h := HR.out
    rw [List.drop_of_length_le (by rw [List.length_zip, List.length_zip, List.length_zip]; omega)] at h
    injection h with h
    subst h
    clear HR
    go_wp2
    go_ret
    exact ⟨rfl, HB.out⟩
   obtain ⟨ad1, e1, hx0⟩ := Kd.at_int HR1.out (i : Int) (by omega) (by omega)
   subst e1
   obtain ⟨b, hb1⟩ : ∃ b, b = rd l1 (i : Int) := ⟨_, rfl⟩
   simp only [← hb1, Int.toNat_natCast] at hx0
   have hbb : 0 ≤ b ∧ b ≤ 255 := by rw [hb1]; exact HU8.out _ (rd_mem9 hil)
   have HB1 := Aside0.mk hb1
   clear hb1
   replace hx0 := (HB.out.cell (World.block_lt_of_cell? w _ hx0)).trans hx0
   by_cases hi2 : i < l2.length
   case neg =>
    have h := HR.out
    rw [List.drop_of_length_le (by rw [List.length_zip, List.length_zip, List.length_zip]; omega)] at h
    injection h with h
    subst h
    have hg1 : decide ((l2.length : Int) ≤ (i : Int)) = true := decide_eq_true (by omega)
    have hg2 : decide (l2.length ≤ i) = true := decide_eq_true (by omega)
    clear HR hi2 hbb
    go_wp2
    go_ret
    exact ⟨rfl, HB.out⟩
   have hg21 : decide ((l2.length : Int) ≤ (i : Int)) = false := decide_eq_false (by omega)
   have hg22 : decide (l2.length ≤ i) = false := decide_eq_false (by omega)
   by_cases hi3 : i < l3.length
   case neg =>
    have h := HR.out
    rw [List.drop_of_length_le (by rw [List.length_zip, List.length_zip, List.length_zip]; omega)] at h
    injection h with h
    subst h
    have hg1 : decide ((l3.length : Int) ≤ (i : Int)) = true := decide_eq_true (by omega)
    have hg2 : decide (l3.length ≤ i) = true := decide_eq_true (by omega)
    clear HR hi3 hbb
    go_wp2
    go_ret
    exact ⟨rfl, HB.out⟩
   have hg31 : decide ((l3.length : Int) ≤ (i : Int)) = false := decide_eq_false (by omega)
   have hg32 : decide (l3.length ≤ i) = false := decide_eq_false (by omega)
   by_cases hi4 : i < l4.length
   case neg =>
    have h := HR.out
    rw [List.drop_of_length_le (by rw [List.length_zip, List.length_zip, List.length_zip]; omega)] at h
    injection h with h
    subst h
    have hg1 : decide ((l4.length : Int) ≤ (i : Int)) = true := decide_eq_true (by omega)
    have hg2 : decide (l4.length ≤ i) = true := decide_eq_true (by omega)
    clear HR hi4 hbb
    go_wp2
    go_ret
    exact ⟨rfl, HB.out⟩
   have hg41 : decide ((l4.length : Int) ≤ (i : Int)) = false := decide_eq_false (by omega)
   have hg42 : decide (l4.length ≤ i) = false := decide_eq_false (by omega)
   have HZ : Aside0 ((l1.zip (l2.zip (l3.zip l4))).drop i = (b, rd l2 (i : Int), rd l3 (i : Int), rd l4 (i : Int)) :: (l1.zip (l2.zip (l3.zip l4))).drop (i + 1)) := ⟨by rw [HB1.out]; exact zip4 hil hi2 hi3 hi4⟩
   obtain ⟨ad2, e2, hx2⟩ := Kd.at_int HR2.out (i : Int) (by omega) (by omega)
   subst e2
   obtain ⟨id, hid⟩ : ∃ id, id = rd l2 (i : Int) := ⟨_, rfl⟩
   simp only [← hid, Int.toNat_natCast] at hx2
   have HX2 := Aside0.mk hx2
   obtain ⟨ad3, e3, hx3⟩ := Kd.at_int HR3.out (i : Int) (by omega) (by omega)
   subst e3
   obtain ⟨hd, hhd⟩ : ∃ hd, hd = rd l3 (i : Int) := ⟨_, rfl⟩
   simp only [← hhd, Int.toNat_natCast] at hx3
   have HX3 := Aside0.mk hx3
   obtain ⟨ad4, e4, hx4⟩ := Kd.at_int HR4.out (i : Int) (by omega) (by omega)
   subst e4
   obtain ⟨am, ham⟩ : ∃ am, am = rd l4 (i : Int) := ⟨_, rfl⟩
   simp only [← ham, Int.toNat_natCast] at hx4
   have HX4 := Aside0.mk hx4
   rw [← hid, ← hhd, ← ham] at HZ
   have h := HR.out
   rw [HZ.out, damsonlaw10_LedgerKeeps.rounds] at h
   dsimp only at h
   obtain ⟨⟨d, e⟩, h1, h_⟩ := Option.bind_eq_some_iff.mp h
   replace h := h_
   clear h_
   have HF := Aside0.mk h1
   have HT := Aside0.mk h
   clear h1 h hx2 hx3 hx4 hid hhd ham HB1 HR
   go_upto_block 2 with (fail)
   clear hx0
   go_cut [14, 15, 61] (fun v14 v15 v61 wc => ∃ (Ad : Option Addr) (cd : Nat), v14 = .slice Ad d.length cd ∧ v15 = .int .i64 e ∧ Aside0 (d.length ≤ cd) ∧ Aside0 (Kd.C k25 wc Ad d.length d) ∧ Aside0 (Kd.C k25 wc Ac lq.length lq) ∧ Aside0 (Below w.heap.size w wc))
   case first =>
    have hm : b % 5 = 0 ∨ b % 5 = 1 ∨ b % 5 = 2 ∨ b % 5 = 3 ∨ b % 5 = 4 := by omega
    have HB0 := Aside0.mk hbb.1
    clear hbb hg21 hg22 hg31 hg32 hg41 hg42
    rcases hm with hm | hm | hm | hm | hm
    · have hF := HF.out
      unfold damsonlaw10_LedgerKeeps.one at hF
      rw [if_pos (by omega)] at hF
      obtain ⟨⟨d_, e_⟩, h1, hF_⟩ := Option.bind_eq_some_iff.mp hF
      replace hF := hF_
      clear hF_
      have HFh := Aside0.mk h1
      clear h1
      obtain ⟨⟨q1, q2⟩, h1, hF_⟩ := Option.bind_eq_some_iff.mp hF
      replace hF := hF_
      clear hF_
      try dsimp only at h1 hF
      have HFw := Aside0.mk h1
      clear h1
      by_cases hq : e_ = 0 → q2 = 0 ∧ q1 = id
      case neg => rw [if_neg hq] at hF; cases hF
      rw [if_pos hq] at hF
      injection hF with hF
      injection hF with hF1 hF2
      subst hF1 hF2
      have HQ := Aside0.mk hq
      clear hq HF
      go_wp2
      replace HB := Aside0.mk (below_drew1 HB.out)
      replace HM := Aside0.mk (Kd.C_drew HM.out)
      refine start_ (n := 19) (S := fun w' => w'.cell? (ad2.add i) = some (.int .u64 id) ∧ w'.cell? (ad3.add i) = some (.int .u64 hd) ∧ w'.cell? (ad4.add i) = some (.int .u64 am)) (ds := []) #[false, false, false, false, false, false, false, false, false, false, false, false, false, false, false, false, false, false, false] (by kernel_rfl) rfl rfl ⟨((HB.out.cell (World.block_lt_of_cell? w _ HX2.out)).trans HX2.out), ((HB.out.cell (World.block_lt_of_cell? w _ HX3.out)).trans HX3.out), ((HB.out.cell (World.block_lt_of_cell? w _ HX4.out)).trans HX4.out)⟩ (fun hHeld => ?_); refine with_tabW damsonlaw10_LedgerKeeps.tab16 damsonlaw10_LedgerKeeps.bits16 (fun HT_ HW_ => ?_)
      generalize wr.drew = wd at HB HM hHeld ⊢
      refine pureA_ 0 75 (bm 19 1) ?_
      refine pureA_ 1 76 (bm 19 3) ?_
      refine pureA_ 2 77 (bm 19 7) ?_
      refine pureA_ 3 78 (bm 19 15) ?_
      refine pureA_ 5 80 (bm 19 47) ?_
      refine pureA_ 6 81 (bm 19 111) ?_
      refine pureA_ 7 82 (bm 19 239) ?_
      refine pureA_ 9 84 (bm 19 751) ?_
      refine pureA_ 10 85 (bm 19 1775) ?_
      refine pureA_ 11 86 (bm 19 3823) ?_
      refine take_ (i := 4) (N := some 79) (v := ?_) (a' := ?_) #[true, true, true, true, true, true, true, true, false, true, true, true, false, false, false, false, false, false, false] rfl rfl (take_ofW HT_.out HW_.out (by kernel_rfl)) (fun _ _ _ h => h) (Or.inl ⟨by rfl, ?_⟩) hHeld ?_ ?_
      rotate_left
      · rintro w' ⟨s0, s1, s2⟩
        go_simp
        with_reducible rfl
      rotate_left
      · simp only [Act.put, List.setIfInBounds_toArray, List.set_cons_zero, List.set_cons_succ, i64_w, i32_w]
        rfl
      refine take_ (i := 8) (N := some 83) (v := ?_) (a' := ?_) #[true, true, true, true, true, true, true, true, true, true, true, true, false, false, false, false, false, false, false] rfl rfl (take_ofW HT_.out HW_.out (by kernel_rfl)) (fun _ _ _ h => h) (Or.inl ⟨by rfl, ?_⟩) hHeld ?_ ?_
      rotate_left
      · rintro w' ⟨s0, s1, s2⟩
        go_simp
        with_reducible rfl
      rotate_left
      · simp only [Act.put, List.setIfInBounds_toArray, List.set_cons_zero, List.set_cons_succ, i64_w, i32_w]
        rfl
      refine take_ (i := 12) (N := some 87) (v := ?_) (a' := ?_) #[true, true, true, true, true, true, true, true, true, true, true, true, true, false, false, false, false, false, false] rfl rfl (take_ofW HT_.out HW_.out (by kernel_rfl)) (fun _ _ _ h => h) (Or.inl ⟨by rfl, ?_⟩) hHeld ?_ ?_
      rotate_left
      · rintro w' ⟨s0, s1, s2⟩
        go_simp
        with_reducible rfl
      rotate_left
      · simp only [Act.put, List.setIfInBounds_toArray, List.set_cons_zero, List.set_cons_succ, i64_w, i32_w]
        rfl
      refine one_ (i := 13) (N := some 88) #[true, true, true, true, true, true, true, true, true, true, true, true, true, true, false, false, false, false, false] rfl rfl (one_of HT_.out (by kernel_rfl)) (by decide) (fun K hK => ?_)
      refine goes_ Try.func57 (by kernel_rfl) rfl #[.slice Ac lq.length cc, .int .u64 id, .int .u64 hd, .int .u64 am] (by rfl) rfl rfl (by (try simp only [List.map_toArray, List.map_cons, List.map_nil]); first | done | rfl | (simp only [List.length_drop, List.length_take]; rfl)) ?_
      refine (ledger_Hold.callsS k Ac cc lq id hd am d_ e_ _ HM.out HL.out HFh.out).mono ?_
      rintro e w6 ⟨v, rfl, ho, hb⟩
      refine ⟨_, rfl, ?_⟩
      obtain ⟨Ad, cd, hv, hcl, hC⟩ := ho.reads
      subst hv
      have HLd := Aside0.mk hcl
      have HMd := Aside0.mk hC
      clear hcl hC
      replace HB := Aside0.mk (below_then HB.out HB.out.size hb)
      replace HM := Aside0.mk (Kd.C_below HM.out hb)
      clear ho hb
      refine hK.out _ _ ⟨((HB.out.cell (World.block_lt_of_cell? w _ HX2.out)).trans HX2.out), ((HB.out.cell (World.block_lt_of_cell? w _ HX3.out)).trans HX3.out), ((HB.out.cell (World.block_lt_of_cell? w _ HX4.out)).trans HX4.out)⟩ (fun hHeld => ?_)
      clear hK K
      refine norm_ (a' := ?_) ?_ ?_
      rotate_left
      · show Act.put _ (some 88) _ = _
        simp only [Act.put, List.setIfInBounds_toArray, List.set_cons_zero, List.set_cons_succ, i64_w, i32_w]
        rfl
      refine pureA_ 14 74 (bm 19 32767) ?_
      refine pureA_ 15 89 (bm 19 65535) ?_
      refine pureA_ 16 90 (bm 19 131071) ?_
      refine pureA_ 17 14 (bm 19 262143) ?_
      refine pureA_ 18 15 (bm 19 524287) ?_
      refine done_ (done_of HT_.out (by kernel_rfl)) ?_
      have hc2 := ((HB.out.cell (World.block_lt_of_cell? w _ HX2.out)).trans HX2.out)
      have hc3 := ((HB.out.cell (World.block_lt_of_cell? w _ HX3.out)).trans HX3.out)
      by_cases he : e_ = 0
      · subst he
        obtain ⟨hq2, hq1⟩ := HQ.out rfl
        subst hq2 hq1
        clear HQ
        go_wp2_with (go_at_call 50; clear hc2 hc3; refine (ledger_Where.calls k Ad cd d_ hd q1 0 _ HMd.out HLd.out HFw.out).mono ?_; rintro e w7 ⟨rfl, hb⟩; clear HFw; replace HB := Aside0.mk (below_then HB.out HB.out.size hb); replace HM := Aside0.mk (Kd.C_below HM.out hb); replace HMd := Aside0.mk (Kd.C_below HMd.out hb); have hc2 := ((HB.out.cell (World.block_lt_of_cell? w _ HX2.out)).trans HX2.out); clear hb)
        go_meet
        case rel => exact ⟨Ad, cd, rfl, rfl, HLd, HMd, HM, HB⟩
      · have he1 : (e_ == 0) = false := beq_eq_false_iff_ne.mpr he
        clear he
        go_wp2_with (go_at_call 50; clear hc2 hc3; refine (ledger_Where.calls k Ad cd d_ hd q1 q2 _ HMd.out HLd.out HFw.out).mono ?_; rintro e w7 ⟨rfl, hb⟩; clear HFw; replace HB := Aside0.mk (below_then HB.out HB.out.size hb); replace HM := Aside0.mk (Kd.C_below HM.out hb); replace HMd := Aside0.mk (Kd.C_below HMd.out hb); have hc2 := ((HB.out.cell (World.block_lt_of_cell? w _ HX2.out)).trans HX2.out); clear hb)
        go_meet
        case rel => exact ⟨Ad, cd, rfl, rfl, HLd, HMd, HM, HB⟩
    · have hF := HF.out
      unfold damsonlaw10_LedgerKeeps.one at hF
      rw [if_pos (by omega)] at hF
      obtain ⟨⟨d_, e_⟩, h1, hF_⟩ := Option.bind_eq_some_iff.mp hF
      replace hF := hF_
      clear hF_
      have HFh := Aside0.mk h1
      clear h1
      obtain ⟨⟨q1, q2⟩, h1, hF_⟩ := Option.bind_eq_some_iff.mp hF
      replace hF := hF_
      clear hF_
      try dsimp only at h1 hF
      have HFw := Aside0.mk h1
      clear h1
      by_cases hq : e_ = 0 → q2 = 0 ∧ q1 = id
      case neg => rw [if_neg hq] at hF; cases hF
      rw [if_pos hq] at hF
      injection hF with hF
      injection hF with hF1 hF2
      subst hF1 hF2
      have HQ := Aside0.mk hq
      clear hq HF
      go_wp2
      replace HB := Aside0.mk (below_drew1 HB.out)
      replace HM := Aside0.mk (Kd.C_drew HM.out)
      refine start_ (n := 19) (S := fun w' => w'.cell? (ad2.add i) = some (.int .u64 id) ∧ w'.cell? (ad3.add i) = some (.int .u64 hd) ∧ w'.cell? (ad4.add i) = some (.int .u64 am)) (ds := []) #[false, false, false, false, false, false, false, false, false, false, false, false, false, false, false, false, false, false, false] (by kernel_rfl) rfl rfl ⟨((HB.out.cell (World.block_lt_of_cell? w _ HX2.out)).trans HX2.out), ((HB.out.cell (World.block_lt_of_cell? w _ HX3.out)).trans HX3.out), ((HB.out.cell (World.block_lt_of_cell? w _ HX4.out)).trans HX4.out)⟩ (fun hHeld => ?_); refine with_tabW damsonlaw10_LedgerKeeps.tab16 damsonlaw10_LedgerKeeps.bits16 (fun HT_ HW_ => ?_)
      generalize wr.drew = wd at HB HM hHeld ⊢
      refine pureA_ 0 75 (bm 19 1) ?_
      refine pureA_ 1 76 (bm 19 3) ?_
      refine pureA_ 2 77 (bm 19 7) ?_
      refine pureA_ 3 78 (bm 19 15) ?_
      refine pureA_ 5 80 (bm 19 47) ?_
      refine pureA_ 6 81 (bm 19 111) ?_
      refine pureA_ 7 82 (bm 19 239) ?_
      refine pureA_ 9 84 (bm 19 751) ?_
      refine pureA_ 10 85 (bm 19 1775) ?_
      refine pureA_ 11 86 (bm 19 3823) ?_
      refine take_ (i := 4) (N := some 79) (v := ?_) (a' := ?_) #[true, true, true, true, true, true, true, true, false, true, true, true, false, false, false, false, false, false, false] rfl rfl (take_ofW HT_.out HW_.out (by kernel_rfl)) (fun _ _ _ h => h) (Or.inl ⟨by rfl, ?_⟩) hHeld ?_ ?_
      rotate_left
      · rintro w' ⟨s0, s1, s2⟩
        go_simp
        with_reducible rfl
      rotate_left
      · simp only [Act.put, List.setIfInBounds_toArray, List.set_cons_zero, List.set_cons_succ, i64_w, i32_w]
        rfl
      refine take_ (i := 8) (N := some 83) (v := ?_) (a' := ?_) #[true, true, true, true, true, true, true, true, true, true, true, true, false, false, false, false, false, false, false] rfl rfl (take_ofW HT_.out HW_.out (by kernel_rfl)) (fun _ _ _ h => h) (Or.inl ⟨by rfl, ?_⟩) hHeld ?_ ?_
      rotate_left
      · rintro w' ⟨s0, s1, s2⟩
        go_simp
        with_reducible rfl
      rotate_left
      · simp only [Act.put, List.setIfInBounds_toArray, List.set_cons_zero, List.set_cons_succ, i64_w, i32_w]
        rfl
      refine take_ (i := 12) (N := some 87) (v := ?_) (a' := ?_) #[true, true, true, true, true, true, true, true, true, true, true, true, true, false, false, false, false, false, false] rfl rfl (take_ofW HT_.out HW_.out (by kernel_rfl)) (fun _ _ _ h => h) (Or.inl ⟨by rfl, ?_⟩) hHeld ?_ ?_
      rotate_left
      · rintro w' ⟨s0, s1, s2⟩
        go_simp
        with_reducible rfl
      rotate_left
      · simp only [Act.put, List.setIfInBounds_toArray, List.set_cons_zero, List.set_cons_succ, i64_w, i32_w]
        rfl
      refine one_ (i := 13) (N := some 88) #[true, true, true, true, true, true, true, true, true, true, true, true, true, true, false, false, false, false, false] rfl rfl (one_of HT_.out (by kernel_rfl)) (by decide) (fun K hK => ?_)
      refine goes_ Try.func57 (by kernel_rfl) rfl #[.slice Ac lq.length cc, .int .u64 id, .int .u64 hd, .int .u64 am] (by rfl) rfl rfl (by (try simp only [List.map_toArray, List.map_cons, List.map_nil]); first | done | rfl | (simp only [List.length_drop, List.length_take]; rfl)) ?_
      refine (ledger_Hold.callsS k Ac cc lq id hd am d_ e_ _ HM.out HL.out HFh.out).mono ?_
      rintro e w6 ⟨v, rfl, ho, hb⟩
      refine ⟨_, rfl, ?_⟩
      obtain ⟨Ad, cd, hv, hcl, hC⟩ := ho.reads
      subst hv
      have HLd := Aside0.mk hcl
      have HMd := Aside0.mk hC
      clear hcl hC
      replace HB := Aside0.mk (below_then HB.out HB.out.size hb)
      replace HM := Aside0.mk (Kd.C_below HM.out hb)
      clear ho hb
      refine hK.out _ _ ⟨((HB.out.cell (World.block_lt_of_cell? w _ HX2.out)).trans HX2.out), ((HB.out.cell (World.block_lt_of_cell? w _ HX3.out)).trans HX3.out), ((HB.out.cell (World.block_lt_of_cell? w _ HX4.out)).trans HX4.out)⟩ (fun hHeld => ?_)
      clear hK K
      refine norm_ (a' := ?_) ?_ ?_
      rotate_left
      · show Act.put _ (some 88) _ = _
        simp only [Act.put, List.setIfInBounds_toArray, List.set_cons_zero, List.set_cons_succ, i64_w, i32_w]
        rfl
      refine pureA_ 14 74 (bm 19 32767) ?_
      refine pureA_ 15 89 (bm 19 65535) ?_
      refine pureA_ 16 90 (bm 19 131071) ?_
      refine pureA_ 17 14 (bm 19 262143) ?_
      refine pureA_ 18 15 (bm 19 524287) ?_
      refine done_ (done_of HT_.out (by kernel_rfl)) ?_
      have hc2 := ((HB.out.cell (World.block_lt_of_cell? w _ HX2.out)).trans HX2.out)
      have hc3 := ((HB.out.cell (World.block_lt_of_cell? w _ HX3.out)).trans HX3.out)
      by_cases he : e_ = 0
      · subst he
        obtain ⟨hq2, hq1⟩ := HQ.out rfl
        subst hq2 hq1
        clear HQ
        go_wp2_with (go_at_call 50; clear hc2 hc3; refine (ledger_Where.calls k Ad cd d_ hd q1 0 _ HMd.out HLd.out HFw.out).mono ?_; rintro e w7 ⟨rfl, hb⟩; clear HFw; replace HB := Aside0.mk (below_then HB.out HB.out.size hb); replace HM := Aside0.mk (Kd.C_below HM.out hb); replace HMd := Aside0.mk (Kd.C_below HMd.out hb); have hc2 := ((HB.out.cell (World.block_lt_of_cell? w _ HX2.out)).trans HX2.out); clear hb)
        go_meet
        case rel => exact ⟨Ad, cd, rfl, rfl, HLd, HMd, HM, HB⟩
      · have he1 : (e_ == 0) = false := beq_eq_false_iff_ne.mpr he
        clear he
        go_wp2_with (go_at_call 50; clear hc2 hc3; refine (ledger_Where.calls k Ad cd d_ hd q1 q2 _ HMd.out HLd.out HFw.out).mono ?_; rintro e w7 ⟨rfl, hb⟩; clear HFw; replace HB := Aside0.mk (below_then HB.out HB.out.size hb); replace HM := Aside0.mk (Kd.C_below HM.out hb); replace HMd := Aside0.mk (Kd.C_below HMd.out hb); have hc2 := ((HB.out.cell (World.block_lt_of_cell? w _ HX2.out)).trans HX2.out); clear hb)
        go_meet
        case rel => exact ⟨Ad, cd, rfl, rfl, HLd, HMd, HM, HB⟩
    · have hF := HF.out
      unfold damsonlaw10_LedgerKeeps.one at hF
      rw [if_neg (by omega), if_pos hm] at hF
      obtain ⟨⟨d_, n_, e_⟩, h1, hF_⟩ := Option.bind_eq_some_iff.mp hF
      replace hF := hF_
      clear hF_
      have HFh := Aside0.mk h1
      clear h1
      obtain ⟨⟨q1, q2⟩, h1, hF_⟩ := Option.bind_eq_some_iff.mp hF
      replace hF := hF_
      clear hF_
      try dsimp only at h1 hF
      have HFw := Aside0.mk h1
      clear h1
      by_cases hq : e_ = 0 → q2 = 5
      case neg => rw [if_neg hq] at hF; cases hF
      rw [if_pos hq] at hF
      injection hF with hF
      injection hF with hF1 hF2
      subst hF1 hF2
      have HQ := Aside0.mk hq
      clear hq HF
      have hc3 := ((HB.out.cell (World.block_lt_of_cell? w _ HX3.out)).trans HX3.out)
      by_cases hp : (b % 2 == 0) = true
      · have HFh' := HFh.out
        rw [hp] at HFh'
        have hp2 : (b.tmod 2 == 0) = true := by rw [Int.tmod_eq_emod_of_nonneg HB0.out]; exact hp
        clear hp
        have HFh2 := Aside0.mk HFh'
        clear HFh HFh'
        have HFh := HFh2
        clear HFh2
        by_cases he : e_ = 0
        · subst he
          have hq2 := HQ.out rfl
          subst hq2
          clear HQ
          go_wp2_with (first | (go_at_call 58; clear hc3; refine (ledger_End.callsS k Ac cc lq hd true d_ n_ 0 _ HM.out HL.out HFh.out).mono ?_; rintro e w6 ⟨v, rfl, ho, hb⟩; clear HFh; obtain ⟨Ad, cd, hv, hcl, hC⟩ := ho.reads; subst hv; have HLd := Aside0.mk hcl; have HMd := Aside0.mk hC; clear hcl hC; replace HB := Aside0.mk (below_then HB.out HB.out.size hb); replace HM := Aside0.mk (Kd.C_below HM.out hb); have hc3 := ((HB.out.cell (World.block_lt_of_cell? w _ HX3.out)).trans HX3.out); clear ho hb) | (go_at_call 50; clear hc3; refine (ledger_Where.calls k Ad cd d_ hd q1 5 _ HMd.out HLd.out HFw.out).mono ?_; rintro e w7 ⟨rfl, hb⟩; clear HFw; replace HB := Aside0.mk (below_then HB.out HB.out.size hb); replace HM := Aside0.mk (Kd.C_below HM.out hb); replace HMd := Aside0.mk (Kd.C_below HMd.out hb); clear hb))
          go_meet
          case rel => exact ⟨Ad, cd, rfl, rfl, HLd, HMd, HM, HB⟩
        · have he1 : (e_ == 0) = false := beq_eq_false_iff_ne.mpr he
          clear he
          go_wp2_with (first | (go_at_call 58; clear hc3; refine (ledger_End.callsS k Ac cc lq hd true d_ n_ e_ _ HM.out HL.out HFh.out).mono ?_; rintro e w6 ⟨v, rfl, ho, hb⟩; clear HFh; obtain ⟨Ad, cd, hv, hcl, hC⟩ := ho.reads; subst hv; have HLd := Aside0.mk hcl; have HMd := Aside0.mk hC; clear hcl hC; replace HB := Aside0.mk (below_then HB.out HB.out.size hb); replace HM := Aside0.mk (Kd.C_below HM.out hb); have hc3 := ((HB.out.cell (World.block_lt_of_cell? w _ HX3.out)).trans HX3.out); clear ho hb) | (go_at_call 50; clear hc3; refine (ledger_Where.calls k Ad cd d_ hd q1 q2 _ HMd.out HLd.out HFw.out).mono ?_; rintro e w7 ⟨rfl, hb⟩; clear HFw; replace HB := Aside0.mk (below_then HB.out HB.out.size hb); replace HM := Aside0.mk (Kd.C_below HM.out hb); replace HMd := Aside0.mk (Kd.C_below HMd.out hb); clear hb))
          go_meet
          case rel => exact ⟨Ad, cd, rfl, rfl, HLd, HMd, HM, HB⟩
      · replace hp : (b % 2 == 0) = false := by simpa using hp
        have HFh' := HFh.out
        rw [hp] at HFh'
        have hp2 : (b.tmod 2 == 0) = false := by rw [Int.tmod_eq_emod_of_nonneg HB0.out]; exact hp
        clear hp
        have HFh2 := Aside0.mk HFh'
        clear HFh HFh'
        have HFh := HFh2
        clear HFh2
        by_cases he : e_ = 0
        · subst he
          have hq2 := HQ.out rfl
          subst hq2
          clear HQ
          go_wp2_with (first | (go_at_call 58; clear hc3; refine (ledger_End.callsS k Ac cc lq hd false d_ n_ 0 _ HM.out HL.out HFh.out).mono ?_; rintro e w6 ⟨v, rfl, ho, hb⟩; clear HFh; obtain ⟨Ad, cd, hv, hcl, hC⟩ := ho.reads; subst hv; have HLd := Aside0.mk hcl; have HMd := Aside0.mk hC; clear hcl hC; replace HB := Aside0.mk (below_then HB.out HB.out.size hb); replace HM := Aside0.mk (Kd.C_below HM.out hb); have hc3 := ((HB.out.cell (World.block_lt_of_cell? w _ HX3.out)).trans HX3.out); clear ho hb) | (go_at_call 50; clear hc3; refine (ledger_Where.calls k Ad cd d_ hd q1 5 _ HMd.out HLd.out HFw.out).mono ?_; rintro e w7 ⟨rfl, hb⟩; clear HFw; replace HB := Aside0.mk (below_then HB.out HB.out.size hb); replace HM := Aside0.mk (Kd.C_below HM.out hb); replace HMd := Aside0.mk (Kd.C_below HMd.out hb); clear hb))
          go_meet
          case rel => exact ⟨Ad, cd, rfl, rfl, HLd, HMd, HM, HB⟩
        · have he1 : (e_ == 0) = false := beq_eq_false_iff_ne.mpr he
          clear he
          go_wp2_with (first | (go_at_call 58; clear hc3; refine (ledger_End.callsS k Ac cc lq hd false d_ n_ e_ _ HM.out HL.out HFh.out).mono ?_; rintro e w6 ⟨v, rfl, ho, hb⟩; clear HFh; obtain ⟨Ad, cd, hv, hcl, hC⟩ := ho.reads; subst hv; have HLd := Aside0.mk hcl; have HMd := Aside0.mk hC; clear hcl hC; replace HB := Aside0.mk (below_then HB.out HB.out.size hb); replace HM := Aside0.mk (Kd.C_below HM.out hb); have hc3 := ((HB.out.cell (World.block_lt_of_cell? w _ HX3.out)).trans HX3.out); clear ho hb) | (go_at_call 50; clear hc3; refine (ledger_Where.calls k Ad cd d_ hd q1 q2 _ HMd.out HLd.out HFw.out).mono ?_; rintro e w7 ⟨rfl, hb⟩; clear HFw; replace HB := Aside0.mk (below_then HB.out HB.out.size hb); replace HM := Aside0.mk (Kd.C_below HM.out hb); replace HMd := Aside0.mk (Kd.C_below HMd.out hb); clear hb))
          go_meet
          case rel => exact ⟨Ad, cd, rfl, rfl, HLd, HMd, HM, HB⟩
    · have hF := HF.out
      unfold damsonlaw10_LedgerKeeps.one at hF
      rw [if_neg (by omega), if_neg (by omega), if_pos hm] at hF
      have HFh := Aside0.mk hF
      clear hF HF
      go_wp2
      replace HB := Aside0.mk (below_drew1 HB.out)
      replace HM := Aside0.mk (Kd.C_drew HM.out)
      refine start_ (n := 15) (S := fun w' => w'.cell? (ad2.add i) = some (.int .u64 id) ∧ w'.cell? (ad4.add i) = some (.int .u64 am)) (ds := []) #[false, false, false, false, false, false, false, false, false, false, false, false, false, false, false] (by kernel_rfl) rfl rfl ⟨((HB.out.cell (World.block_lt_of_cell? w _ HX2.out)).trans HX2.out), ((HB.out.cell (World.block_lt_of_cell? w _ HX4.out)).trans HX4.out)⟩ (fun hHeld => ?_); refine with_tabW damsonlaw10_LedgerKeeps.tab26 damsonlaw10_LedgerKeeps.bits26 (fun HT_ HW_ => ?_)
      generalize wr.drew = wd at HB HM hHeld ⊢
      refine pureA_ 0 147 (bm 15 1) ?_
      refine pureA_ 1 148 (bm 15 3) ?_
      refine pureA_ 2 149 (bm 15 7) ?_
      refine pureA_ 3 150 (bm 15 15) ?_
      refine pureA_ 5 152 (bm 15 47) ?_
      refine pureA_ 6 153 (bm 15 111) ?_
      refine pureA_ 7 154 (bm 15 239) ?_
      refine take_ (i := 4) (N := some 151) (v := ?_) (a' := ?_) #[true, true, true, true, true, true, true, true, false, false, false, false, false, false, false] rfl rfl (take_ofW HT_.out HW_.out (by kernel_rfl)) (fun _ _ _ h => h) (Or.inl ⟨by rfl, ?_⟩) hHeld ?_ ?_
      rotate_left
      · rintro w' ⟨s0, s1⟩
        go_simp
        with_reducible rfl
      rotate_left
      · simp only [Act.put, List.setIfInBounds_toArray, List.set_cons_zero, List.set_cons_succ, i64_w, i32_w]
        rfl
      refine take_ (i := 8) (N := some 155) (v := ?_) (a' := ?_) #[true, true, true, true, true, true, true, true, true, false, false, false, false, false, false] rfl rfl (take_ofW HT_.out HW_.out (by kernel_rfl)) (fun _ _ _ h => h) (Or.inl ⟨by rfl, ?_⟩) hHeld ?_ ?_
      rotate_left
      · rintro w' ⟨s0, s1⟩
        go_simp
        with_reducible rfl
      rotate_left
      · simp only [Act.put, List.setIfInBounds_toArray, List.set_cons_zero, List.set_cons_succ, i64_w, i32_w]
        rfl
      refine one_ (i := 9) (N := some 156) #[true, true, true, true, true, true, true, true, true, true, false, false, false, false, false] rfl rfl (one_of HT_.out (by kernel_rfl)) (by decide) (fun K hK => ?_)
      refine goes_ Try.func63 (by kernel_rfl) rfl #[.slice Ac lq.length cc, .int .u64 id, .int .u64 am] (by rfl) rfl rfl (by (try simp only [List.map_toArray, List.map_cons, List.map_nil]); first | done | rfl | (simp only [List.length_drop, List.length_take]; rfl)) ?_
      refine (ledger_Push.callsS k Ac cc lq id am d e _ HM.out HL.out HFh.out).mono ?_
      rintro e w6 ⟨v, rfl, ho, hb⟩
      refine ⟨_, rfl, ?_⟩
      obtain ⟨Ad, cd, hv, hcl, hC⟩ := ho.reads
      subst hv
      have HLd := Aside0.mk hcl
      have HMd := Aside0.mk hC
      clear hcl hC
      replace HB := Aside0.mk (below_then HB.out HB.out.size hb)
      replace HM := Aside0.mk (Kd.C_below HM.out hb)
      clear ho hb
      refine hK.out _ _ ⟨((HB.out.cell (World.block_lt_of_cell? w _ HX2.out)).trans HX2.out), ((HB.out.cell (World.block_lt_of_cell? w _ HX4.out)).trans HX4.out)⟩ (fun hHeld => ?_)
      clear hK K
      refine norm_ (a' := ?_) ?_ ?_
      rotate_left
      · show Act.put _ (some 156) _ = _
        simp only [Act.put, List.setIfInBounds_toArray, List.set_cons_zero, List.set_cons_succ, i64_w, i32_w]
        rfl
      refine pureA_ 10 146 (bm 15 2047) ?_
      refine pureA_ 11 157 (bm 15 4095) ?_
      refine pureA_ 12 158 (bm 15 8191) ?_
      refine pureA_ 13 14 (bm 15 16383) ?_
      refine pureA_ 14 15 (bm 15 32767) ?_
      refine done_ (done_of HT_.out (by kernel_rfl)) ?_
      try go_wp2
      go_meet
      case rel => exact ⟨Ad, cd, rfl, rfl, HLd, HMd, HM, HB⟩
    · have hF := HF.out
      unfold damsonlaw10_LedgerKeeps.one at hF
      rw [if_neg (by omega), if_neg (by omega), if_neg (by omega)] at hF
      have HFh := Aside0.mk hF
      clear hF HF
      have hc2 := ((HB.out.cell (World.block_lt_of_cell? w _ HX2.out)).trans HX2.out)
      go_wp2_with (go_at_call 61; clear hc2; refine (ledger_Close.callsS k Ac cc lq id d e _ HM.out HL.out HFh.out).mono ?_; rintro e w6 ⟨v, rfl, ho, hb⟩; clear HFh; obtain ⟨Ad, cd, hv, hcl, hC⟩ := ho.reads; subst hv; have HLd := Aside0.mk hcl; have HMd := Aside0.mk hC; clear hcl hC; replace HB := Aside0.mk (below_then HB.out HB.out.size hb); replace HM := Aside0.mk (Kd.C_below HM.out hb); clear ho hb)
      go_meet
      case rel => exact ⟨Ad, cd, rfl, rfl, HLd, HMd, HM, HB⟩
   case rest =>
   clear HB HM hbb hg21 hg22 hg31 hg32 hg41 hg42 hi2 hi3 hi4 HX2 HX3 HX4 HF HZ
   obtain ⟨Ad, cd, rfl, rfl, HLd, HMd, HM, HB⟩ := hcut
   have hT := HT.out
   clear HT
   by_cases he : e = 0
   case neg =>
    rw [if_neg he] at hT
    by_cases hq : d.length = 0
    case neg => rw [if_neg hq] at hT; cases hT
    rw [if_pos hq] at hT
    have HN := Aside0.mk hT
    clear hT
    have heb : (e != 0) = true := bne_iff_ne.mpr he
    have hd1 : ((d.length : Int) != 0) = false := bne_eq_false_iff_eq.mpr (by omega)
    have hd2 : (d.length != 0) = false := bne_eq_false_iff_eq.mpr hq
    clear he hq
    go_wp2
    go_roundw
    case rel => exact ⟨i + 1, lq, Ac, cc, by omega, by go_num, rfl, HL, HM, HB, HN⟩
    case measure => simp [intOf]; omega
   subst he
   rw [if_pos rfl] at hT
   obtain ⟨x, h1, hT_⟩ := Option.bind_eq_some_iff.mp hT
   replace hT := hT_
   clear hT_
   have HFx := Aside0.mk h1
   clear h1
   obtain ⟨y, h1, hT_⟩ := Option.bind_eq_some_iff.mp hT
   replace hT := hT_
   clear hT_
   have HFy := Aside0.mk h1
   clear h1
   by_cases hq : x = 0 ∧ y = sm ∧ d.length = lq.length
   case neg => rw [if_neg hq] at hT; cases hT
   rw [if_pos hq] at hT
   have HN := Aside0.mk hT
   clear hT
   obtain ⟨rfl, rfl, hdl⟩ := hq
   have hd1 : ((d.length : Int) != (lq.length : Int)) = false := bne_eq_false_iff_eq.mpr (by omega)
   have hd2 : (d.length != lq.length) = false := bne_eq_false_iff_eq.mpr hdl
   clear hdl HM HL
   go_wp2_with (first | (go_at_call 54; refine (ledger_Check.calls k Ad cd d 0 _ HMd.out HLd.out HFx.out).mono ?_; rintro e w8 ⟨rfl, hb⟩; clear HFx; replace HB := Aside0.mk (below_then HB.out HB.out.size hb); replace HMd := Aside0.mk (Kd.C_below HMd.out hb); clear hb) | (go_at_call 67; refine (damsonlaw10_all.calls k Ad cd d y _ HMd.out HLd.out HFy.out).mono ?_; rintro e w9 ⟨rfl, hb⟩; clear HFy; replace HB := Aside0.mk (below_then HB.out HB.out.size hb); replace HMd := Aside0.mk (Kd.C_below HMd.out hb); clear hb))
   go_roundw
   case rel => exact ⟨i + 1, d, Ad, cd, by omega, by go_num, rfl, HLd, HMd, HB, HN⟩
   case measure => simp [intOf]; omega
theorem damsonlaw10_LedgerKeeps.calls (k : Nat) (A0 : Option Addr) (c0 : Nat) (l : List S25) (A1 : Option Addr) (c1 : Nat) (l1 : List Int) (A2 : Option Addr) (c2 : Nat) (l2 : List Int) (A3 : Option Addr) (c3 : Nat) (l3 : List Int) (A4 : Option Addr) (c4 : Nat) (l4 : List Int) (r : Bool) (w : World) (hr0 : Kd.C k25 w A0 l.length l) (hc0 : l.length ≤ c0) (hr1 : Kd.C (Kd.int .u8) w A1 l1.length l1) (hc1 : l1.length ≤ c1) (hr2 : Kd.C (Kd.int .u64) w A2 l2.length l2) (hc2 : l2.length ≤ c2) (hr3 : Kd.C (Kd.int .u64) w A3 l3.length l3) (hc3 : l3.length ≤ c3) (hr4 : Kd.C (Kd.int .u64) w A4 l4.length l4) (hc4 : l4.length ≤ c4) (h : damsonlaw10_LedgerKeeps.f k l l1 l2 l3 l4 = some r) :
    Calls Try.prog 15 #[.slice A0 l.length c0, .slice A1 l1.length c1, .slice A2 l2.length c2, .slice A3 l3.length c3, .slice A4 l4.length c4] w fun e w' => e = .returned (.bool r) ∧ Below w.heap.size w w' := by
  unfold damsonlaw10_LedgerKeeps.f at h
  by_cases hu : (l1.all fun y => decide (0 ≤ y ∧ y ≤ 255)) = true
  · rw [if_pos hu] at h
    exact damsonlaw10_LedgerKeeps.callsS k A0 c0 l A1 c1 l1 A2 c2 l2 A3 c3 l3 A4 c4 l4 r w hr0 hc0 hr1 hc1 hr2 hc2 hr3 hc3 hr4 hc4 (fun y hy => of_decide_eq_true (List.all_eq_true.1 hu y hy)) h
  · rw [if_neg hu] at h; cases h


/-- THE ONE PURE STATEMENT of damsonlaw10_LedgerKeeps: yours. -/
def damsonlaw10_LedgerKeeps.Pure : Prop := ∀ (l0 : List (S25)) (l1 : List Int) (l2 : List Int) (l3 : List Int) (l4 : List Int), (l0.length ≤ 9223372036854775807 ∧ ∀ y_ ∈ l0, G25 y_) → (l1.length ≤ 9223372036854775807 ∧ ∀ y_ ∈ l1, (Lit.int .u8 y_).wf = true) → (l2.length ≤ 9223372036854775807 ∧ ∀ y_ ∈ l2, (Lit.int .u64 y_).wf = true) → (l3.length ≤ 9223372036854775807 ∧ ∀ y_ ∈ l3, (Lit.int .u64 y_).wf = true) → (l4.length ≤ 9223372036854775807 ∧ ∀ y_ ∈ l4, (Lit.int .u64 y_).wf = true) → ∃ k, damsonlaw10_LedgerKeeps.f k l0 l1 l2 l3 l4 = some true
theorem damsonlaw10_LedgerKeeps.walk (P : damsonlaw10_LedgerKeeps.Pure) (w : World) (l0 : List (S25)) (A0 : Option Addr) (c0 : Nat) (hr0 : Kd.C k25 w A0 l0.length l0) (hc0 : l0.length ≤ c0) (g0 : l0.length ≤ 9223372036854775807 ∧ ∀ y_ ∈ l0, G25 y_) (l1 : List Int) (A1 : Option Addr) (c1 : Nat) (hr1 : Kd.C (Kd.int .u8) w A1 l1.length l1) (hc1 : l1.length ≤ c1) (g1 : l1.length ≤ 9223372036854775807 ∧ ∀ y_ ∈ l1, (Lit.int .u8 y_).wf = true) (l2 : List Int) (A2 : Option Addr) (c2 : Nat) (hr2 : Kd.C (Kd.int .u64) w A2 l2.length l2) (hc2 : l2.length ≤ c2) (g2 : l2.length ≤ 9223372036854775807 ∧ ∀ y_ ∈ l2, (Lit.int .u64 y_).wf = true) (l3 : List Int) (A3 : Option Addr) (c3 : Nat) (hr3 : Kd.C (Kd.int .u64) w A3 l3.length l3) (hc3 : l3.length ≤ c3) (g3 : l3.length ≤ 9223372036854775807 ∧ ∀ y_ ∈ l3, (Lit.int .u64 y_).wf = true) (l4 : List Int) (A4 : Option Addr) (c4 : Nat) (hr4 : Kd.C (Kd.int .u64) w A4 l4.length l4) (hc4 : l4.length ≤ c4) (g4 : l4.length ≤ 9223372036854775807 ∧ ∀ y_ ∈ l4, (Lit.int .u64 y_).wf = true) :
    Calls Try.prog 15 #[.slice A0 l0.length c0, .slice A1 l1.length c1, .slice A2 l2.length c2, .slice A3 l3.length c3, .slice A4 l4.length c4] w fun e w' => e = .returned (.bool true) ∧ Below w.heap.size w w' := by
  obtain ⟨k, h⟩ := P l0 l1 l2 l3 l4 g0 g1 g2 g3 g4
  refine (damsonlaw10_LedgerKeeps.calls k A0 c0 l0 A1 c1 l1 A2 c2 l2 A3 c3 l3 A4 c4 l4 true w hr0 hc0 hr1 hc1 hr2 hc2 hr3 hc3 hr4 hc4 h).mono ?_
  rintro e w' ⟨rfl, hd⟩
  exact ⟨rfl, hd⟩
end Go.Proofs.Ytcfbcoinbecdfaa.P
