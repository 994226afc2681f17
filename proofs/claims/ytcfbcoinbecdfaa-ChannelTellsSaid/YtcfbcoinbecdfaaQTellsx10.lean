-- written by a program of this session (wip/print)
import Derived.Test.YtcfbcoinbecdfaaQTellsx0
import Derived.Test.YtcfbcoinbecdfaaQTellsx5
import Derived.Test.YtcfbcoinbecdfaaQTellsx6
import Derived.Test.YtcfbcoinbecdfaaQTellsx7
import Derived.Test.YtcfbcoinbecdfaaQTellsx8
import Derived.Test.YtcfbcoinbecdfaaQTellsx9
namespace Go.Proofs.Ytcfbcoinbecdfaa.P
open Go.RowKit Go.Proofs.YtcfbcoinbecdfaaW.PrintWords Go.Proofs.YtcfbcoinbecdfaaW.PrintLast Go.Proofs.YtcfbcoinbecdfaaW.PrintMore
attribute [local go_sem] max2_int min2_int max_two min_two max_three min_three max_four min_four run_sub64_   -- for this text's walks alone
set_option linter.unusedVariables false
set_option linter.unusedSimpArgs false

/-! ### damsonlaw09_ChannelTells: function 6 -/
def damsonlaw09_ChannelTells.j0 : Nat → Bool → Int → Int → Int → Int → Int → List (S44) → Bool → Int → Int → Int → Int → Int → List (S44) → Bool → Option (Bool)
  | 0, _, _, _, _, _, _, _, _, _, _, _, _, _, _, _ => none
  | k + 1, x28, x252000, x252001, x252002, x252003, x252004, x252005, x252006, x253000, x253001, x253002, x253003, x253004, x253005, x253006 => if x28 = true then (some true) else ((channel_Held.f k x252000 x252001 x252002 x252003 x252004 x252005 x252006).bind fun bt254 => ((damsonref09_Held.f k x252000 x252001 x252002 x252003 x252004 x252005 x252006).bind fun bt256 => ((channel_All.f k x252000 x252001 x252002 x252003 x252004 x252005 x252006).bind fun bt258 => ((damsonref09_All.f k x252000 x252001 x252002 x252003 x252004 x252005 x252006).bind fun bt260 => ((channel_Room.f k x252000 x252001 x252002 x252003 x252004 x252005 x252006).bind fun bt262 => ((damsonref09_Room.f k x252000 x252001 x252002 x252003 x252004 x252005 x252006).bind fun bt264 => (if bt254.1 = bt256.1 then (if bt254.2 = bt256.2 then (if bt258.1 = bt260.1 then (if bt258.2 = bt260.2 then (if bt262.1 = bt264.1 then (if bt262.2 = bt264.2 then ((channel_Check.f k x252000 x252001 x252002 x252003 x252004 x252005 x252006).bind fun t266 => ((damsonref09_Check.f k x252000 x252001 x252002 x252003 x252004 x252005 x252006).bind fun t267 => (if t266 = t267 then ((channel_Same.f k x252000 x252001 x252002 x252003 x252004 x252005 x252006 x253000 x253001 x253002 x253003 x253004 x253005 x253006).bind fun t268 => ((damsonref09_Same.f k x252000 x252001 x252002 x252003 x252004 x252005 x252006 x253000 x253001 x253002 x253003 x253004 x253005 x253006).bind fun t269 => (some (t268 == t269)))) else (some false)))) else (some false)) else (some false)) else (some false)) else (some false)) else (some false)) else (some false))))))))
def damsonlaw09_ChannelTells.f (k : Nat) (a0_0 : Int) (a0_1 : Int) (a0_2 : Int) (a0_3 : Int) (a0_4 : Int) (l0_5 : List (S44)) (a0_6 : Bool) (a1_0 : Int) (a1_1 : Int) (a1_2 : Int) (a1_3 : Int) (a1_4 : Int) (l1_5 : List (S44)) (a1_6 : Bool) : Option (Bool) := (damsonlaw09_live.f k).bind fun t253 => (if t253 = true then (if (l0_5.length : Int) > 70 then (damsonlaw09_ChannelTells.j0 k true a0_0 a0_1 a0_2 a0_3 a0_4 l0_5 a0_6 a1_0 a1_1 a1_2 a1_3 a1_4 l1_5 a1_6) else (damsonlaw09_ChannelTells.j0 k (decide ((l1_5.length : Int) > 70)) a0_0 a0_1 a0_2 a0_3 a0_4 l0_5 a0_6 a1_0 a1_1 a1_2 a1_3 a1_4 l1_5 a1_6)) else (some false))
theorem damsonlaw09_ChannelTells.mono_l : ∀ k, (∀ y0 y1 y2 y3 y4 y5 y6 y7 y8 y9 y10 y11 y12 y13 y14, LeO (damsonlaw09_ChannelTells.j0 k y0 y1 y2 y3 y4 y5 y6 y7 y8 y9 y10 y11 y12 y13 y14) (damsonlaw09_ChannelTells.j0 (k + 1) y0 y1 y2 y3 y4 y5 y6 y7 y8 y9 y10 y11 y12 y13 y14))
  | 0 => fun _ _ _ _ _ _ _ _ _ _ _ _ _ _ _ r h => by simp [damsonlaw09_ChannelTells.j0] at h
  | k + 1 => by
    have ih0 := damsonlaw09_ChannelTells.mono_l k
    · intro y0 y1 y2 y3 y4 y5 y6 y7 y8 y9 y10 y11 y12 y13 y14
      unfold damsonlaw09_ChannelTells.j0
      repeat' first
      | (with_reducible exact ih0 _ _ _ _ _ _ _ _ _ _ _ _ _ _ _)
      | (with_reducible exact channel_All.mono _ _ _ _ _ _ _ _)
      | (with_reducible exact channel_Check.mono _ _ _ _ _ _ _ _)
      | (with_reducible exact channel_Held.mono _ _ _ _ _ _ _ _)
      | (with_reducible exact channel_Room.mono _ _ _ _ _ _ _ _)
      | (with_reducible exact channel_Same.mono _ _ _ _ _ _ _ _ _ _ _ _ _ _ _)
      | (with_reducible exact damsonlaw09_live.mono _)
      | (with_reducible exact damsonref09_All.mono _ _ _ _ _ _ _ _)
      | (with_reducible exact damsonref09_Check.mono _ _ _ _ _ _ _ _)
      | (with_reducible exact damsonref09_Held.mono _ _ _ _ _ _ _ _)
      | (with_reducible exact damsonref09_Room.mono _ _ _ _ _ _ _ _)
      | (with_reducible exact damsonref09_Same.mono _ _ _ _ _ _ _ _ _ _ _ _ _ _ _)
      | (with_reducible exact LeO.refl _)
      | (with_reducible exact LeO.none _)
      | (with_reducible refine LeO.ite ?_ ?_)
      | (with_reducible refine LeO.bind ?_ (fun _ => ?_))
      | exact ih0 _ _ _ _ _ _ _ _ _ _ _ _ _ _ _
      | exact channel_All.mono _ _ _ _ _ _ _ _
      | exact channel_Check.mono _ _ _ _ _ _ _ _
      | exact channel_Held.mono _ _ _ _ _ _ _ _
      | exact channel_Room.mono _ _ _ _ _ _ _ _
      | exact channel_Same.mono _ _ _ _ _ _ _ _ _ _ _ _ _ _ _
      | exact damsonlaw09_live.mono _
      | exact damsonref09_All.mono _ _ _ _ _ _ _ _
      | exact damsonref09_Check.mono _ _ _ _ _ _ _ _
      | exact damsonref09_Held.mono _ _ _ _ _ _ _ _
      | exact damsonref09_Room.mono _ _ _ _ _ _ _ _
      | exact damsonref09_Same.mono _ _ _ _ _ _ _ _ _ _ _ _ _ _ _
      | exact LeO.none _
      | refine LeO.ite ?_ ?_
      | refine LeO.bind ?_ (fun _ => ?_)
theorem damsonlaw09_ChannelTells.mono : ∀ a0 a1 a2 a3 a4 a5 a6 a7 a8 a9 a10 a11 a12 a13 k, LeO (damsonlaw09_ChannelTells.f k a0 a1 a2 a3 a4 a5 a6 a7 a8 a9 a10 a11 a12 a13) (damsonlaw09_ChannelTells.f (k + 1) a0 a1 a2 a3 a4 a5 a6 a7 a8 a9 a10 a11 a12 a13) := by
  intro a0 a1 a2 a3 a4 a5 a6 a7 a8 a9 a10 a11 a12 a13 k
  have ih0 := damsonlaw09_ChannelTells.mono_l k
  unfold damsonlaw09_ChannelTells.f
  repeat' first
      | (with_reducible exact ih0 _ _ _ _ _ _ _ _ _ _ _ _ _ _ _)
      | (with_reducible exact channel_All.mono _ _ _ _ _ _ _ _)
      | (with_reducible exact channel_Check.mono _ _ _ _ _ _ _ _)
      | (with_reducible exact channel_Held.mono _ _ _ _ _ _ _ _)
      | (with_reducible exact channel_Room.mono _ _ _ _ _ _ _ _)
      | (with_reducible exact channel_Same.mono _ _ _ _ _ _ _ _ _ _ _ _ _ _ _)
      | (with_reducible exact damsonlaw09_live.mono _)
      | (with_reducible exact damsonref09_All.mono _ _ _ _ _ _ _ _)
      | (with_reducible exact damsonref09_Check.mono _ _ _ _ _ _ _ _)
      | (with_reducible exact damsonref09_Held.mono _ _ _ _ _ _ _ _)
      | (with_reducible exact damsonref09_Room.mono _ _ _ _ _ _ _ _)
      | (with_reducible exact damsonref09_Same.mono _ _ _ _ _ _ _ _ _ _ _ _ _ _ _)
      | (with_reducible exact LeO.refl _)
      | (with_reducible exact LeO.none _)
      | (with_reducible refine LeO.ite ?_ ?_)
      | (with_reducible refine LeO.bind ?_ (fun _ => ?_))
      | exact ih0 _ _ _ _ _ _ _ _ _ _ _ _ _ _ _
      | exact channel_All.mono _ _ _ _ _ _ _ _
      | exact channel_Check.mono _ _ _ _ _ _ _ _
      | exact channel_Held.mono _ _ _ _ _ _ _ _
      | exact channel_Room.mono _ _ _ _ _ _ _ _
      | exact channel_Same.mono _ _ _ _ _ _ _ _ _ _ _ _ _ _ _
      | exact damsonlaw09_live.mono _
      | exact damsonref09_All.mono _ _ _ _ _ _ _ _
      | exact damsonref09_Check.mono _ _ _ _ _ _ _ _
      | exact damsonref09_Held.mono _ _ _ _ _ _ _ _
      | exact damsonref09_Room.mono _ _ _ _ _ _ _ _
      | exact damsonref09_Same.mono _ _ _ _ _ _ _ _ _ _ _ _ _ _ _
      | exact LeO.none _
      | refine LeO.ite ?_ ?_
      | refine LeO.bind ?_ (fun _ => ?_)
def damsonlaw09_ChannelTells.T11 : Bool × List (List Nat × List Nat) := (true, [([], []), ([], []), ([0, 1], [0, 1]), ([2], [2]), ([3], [3]), ([3], [3]), ([4, 5, 3], [3, 4, 5]), ([3, 6], [3, 6]), ([7, 3], [7]), ([8], [8]), ([8], [8]), ([9, 10, 8], [8, 9, 10]), ([8, 11], [8, 11]), ([12, 8], [12]), ([13], [13]), ([13], [13]), ([14, 15, 13], [13, 14, 15]), ([13, 16], [13, 16]), ([17, 13], [17]), ([18], [18]), ([18], [18]), ([19, 20, 18], [18, 19, 20]), ([18, 21], [18, 21]), ([22, 18], [22]), ([23], [23]), ([23], [23]), ([24, 25, 23], [23, 24, 25]), ([23, 26], [23, 26]), ([27, 23], [27]), ([28], [28]), ([29, 28, 28], [28, 29]), ([28], [28]), ([31, 30, 28], [28, 31]), ([30, 32, 28], [28, 30, 32]), ([28, 33], [28, 33]), ([34, 32], [34]), ([35], [35]), ([35], [35]), ([36, 37, 35, 35], [35, 36, 37]), ([35], [35]), ([35], [35]), ([39, 40, 38, 35], [35, 39, 40]), ([38, 41, 35], [35, 38, 41]), ([35, 42], [35, 42]), ([43, 41, 0, 1, 2, 3, 4, 5, 6, 7, 8, 9, 10, 11, 12, 13, 14, 15, 16, 17, 18, 19, 20, 21, 22, 23, 24, 25, 26, 27, 28, 29, 30, 31, 32, 33, 34, 35, 36, 37, 38, 39, 40, 41, 42, 43], [43])])
def damsonlaw09_ChannelTells.B11 : List Nat := [0, 0, 3, 7, 15, 15, 63, 127, 255, 511, 511, 2047, 4095, 8191, 16383, 16383, 65535, 131071, 262143, 524287, 524287, 2097151, 4194303, 8388607, 16777215, 16777215, 67108863, 134217727, 268435455, 536870911, 1073741823, 536870911, 4294967295, 8589934591, 17179869183, 34359738367, 68719476735, 68719476735, 274877906943, 68719476735, 68719476735, 2199023255551, 4398046511103, 8796093022207, 17592186044415]
theorem damsonlaw09_ChannelTells.tab11 : rtab .any (opsOf Try.f6 11) = damsonlaw09_ChannelTells.T11 := by kernel_rfl
theorem damsonlaw09_ChannelTells.bits11 : waitsOk damsonlaw09_ChannelTells.T11.2 damsonlaw09_ChannelTells.B11 = true := by kernel_rfl
set_option maxHeartbeats 8000000 in
set_option maxRecDepth 100000 in
theorem damsonlaw09_ChannelTells.calls (k : Nat) (a0_0 : Int) (a0_1 : Int) (a0_2 : Int) (a0_3 : Int) (a0_4 : Int) (A0_5 : Option Addr) (c0_5 : Nat) (l0_5 : List (S44)) (a0_6 : Bool) (a1_0 : Int) (a1_1 : Int) (a1_2 : Int) (a1_3 : Int) (a1_4 : Int) (A1_5 : Option Addr) (c1_5 : Nat) (l1_5 : List (S44)) (a1_6 : Bool) (r : Bool) (w : World) (hr0_5 : Kd.C k44 w A0_5 l0_5.length l0_5) (hc0_5 : l0_5.length ≤ c0_5) (hr1_5 : Kd.C k44 w A1_5 l1_5.length l1_5) (hc1_5 : l1_5.length ≤ c1_5) (h : damsonlaw09_ChannelTells.f k a0_0 a0_1 a0_2 a0_3 a0_4 l0_5 a0_6 a1_0 a1_1 a1_2 a1_3 a1_4 l1_5 a1_6 = some r) :
    Calls Try.prog 6 #[.agg #[.int .u64 a0_0, .int .u64 a0_1, .int .u64 a0_2, .int .u64 a0_3, .int .u64 a0_4, .slice A0_5 l0_5.length c0_5, .bool a0_6], .agg #[.int .u64 a1_0, .int .u64 a1_1, .int .u64 a1_2, .int .u64 a1_3, .int .u64 a1_4, .slice A1_5 l1_5.length c1_5, .bool a1_6]] w fun e w' => e = .returned (.bool r) ∧ Below w.heap.size w w' := by
  have hu25 := Try.underlying25
  have HR0_5 := Aside0.mk hr0_5
  have HC0_5 := Aside0.mk hc0_5
  clear hr0_5 hc0_5
  have HR1_5 := Aside0.mk hr1_5
  have HC1_5 := Aside0.mk hc1_5
  clear hr1_5 hc1_5
  have HB := Aside0.mk (Below.refl w.heap.size w)
  have H : ((damsonlaw09_live.f k).bind fun t253 => (if t253 = true then (if (l0_5.length : Int) > 70 then (damsonlaw09_ChannelTells.j0 k true a0_0 a0_1 a0_2 a0_3 a0_4 l0_5 a0_6 a1_0 a1_1 a1_2 a1_3 a1_4 l1_5 a1_6) else (damsonlaw09_ChannelTells.j0 k (decide ((l1_5.length : Int) > 70)) a0_0 a0_1 a0_2 a0_3 a0_4 l0_5 a0_6 a1_0 a1_1 a1_2 a1_3 a1_4 l1_5 a1_6)) else (some false))) = some r := h
  clear h
  replace H := Option.bind_eq_some_iff.mp H
  obtain ⟨t253, A30, H⟩ := H
  replace H : (if t253 = true then (if (l0_5.length : Int) > 70 then (damsonlaw09_ChannelTells.j0 k true a0_0 a0_1 a0_2 a0_3 a0_4 l0_5 a0_6 a1_0 a1_1 a1_2 a1_3 a1_4 l1_5 a1_6) else (damsonlaw09_ChannelTells.j0 k (decide ((l1_5.length : Int) > 70)) a0_0 a0_1 a0_2 a0_3 a0_4 l0_5 a0_6 a1_0 a1_1 a1_2 a1_3 a1_4 l1_5 a1_6)) else (some false)) = some r := H
  have A3 := Aside0.mk A30
  clear A30
  by_cases c4 : t253 = true
  · subst c4
    have H1 : (if (l0_5.length : Int) > 70 then (damsonlaw09_ChannelTells.j0 k true a0_0 a0_1 a0_2 a0_3 a0_4 l0_5 a0_6 a1_0 a1_1 a1_2 a1_3 a1_4 l1_5 a1_6) else (damsonlaw09_ChannelTells.j0 k (decide ((l1_5.length : Int) > 70)) a0_0 a0_1 a0_2 a0_3 a0_4 l0_5 a0_6 a1_0 a1_1 a1_2 a1_3 a1_4 l1_5 a1_6)) = some r := by rw [if_pos rfl] at H; exact H
    clear H
    have H := H1
    clear H1
    have HC5 := Aside0.mk H
    clear H
    go_enter Try.func6, Try.ntmps6
    go_upto_region 3 with (first | ((with_reducible refine gate_dst (N := 2) rfl ?_); (try (refine gate_guard (by rfl) ?_; dsimp only)); refine box_event ?hg (N := 2) ?hd (cs := #[.int .u64 a0_0, .int .u64 a0_1, .int .u64 a0_2, .int .u64 a0_3, .int .u64 a0_4, .slice A0_5 l0_5.length c0_5, .bool a0_6]) (t := 25) ?hr ?_; (case hd => rfl); (case hg => rfl); (case hr => first | (go_simp; done) | (go_simp; rfl)); intro gb251 hg w6 hbox hb; have n0_ := Aside0.mk (below_step (belN HB) hb); have n1_ := Aside0.mk (hbox); have n2_ := Aside0.mk ((by rw [hg]; exact (below_size (belN HB)) : w.heap.size ≤ gb251)); have n3_ := Aside0.mk ((by rw [hg]; exact (below_size (belN HB)) : w.heap.size ≤ gb251)); clear HB; have HB := n0_; have BK251 := n1_; have GW251 := n2_; have GE251 := n3_; clear n0_ n1_ n2_ n3_; clear hb hbox hg) | ((with_reducible refine gate_dst (N := 3) rfl ?_); (try (refine gate_guard (by rfl) ?_; dsimp only)); refine box_event ?hg (N := 3) ?hd (cs := #[.int .u64 a1_0, .int .u64 a1_1, .int .u64 a1_2, .int .u64 a1_3, .int .u64 a1_4, .slice A1_5 l1_5.length c1_5, .bool a1_6]) (t := 25) ?hr ?_; (case hd => rfl); (case hg => rfl); (case hr => first | (go_simp; done) | (go_simp; rfl)); intro gb252 hg w7 hbox hb; have n0_ := Aside0.mk (blk_below (g := gb251) (blkN BK251) hb); have n1_ := Aside0.mk (below_step (belN HB) hb); have n2_ := Aside0.mk (hbox); have n3_ := Aside0.mk ((by rw [hg]; exact (below_size (belN HB)) : w.heap.size ≤ gb252)); have n4_ := Aside0.mk ((by rw [hg]; exact (below_size (belN HB)) : w.heap.size ≤ gb252)); have n5_ := Aside0.mk ((by rw [hg]; exact Nat.ne_of_lt (blk_lt (g := gb251) (blkN BK251)) : gb251 ≠ gb252)); have n6_ := Aside0.mk ((by rw [hg]; exact Nat.ne_of_gt (blk_lt (g := gb251) (blkN BK251)) : gb252 ≠ gb251)); clear BK251; clear HB; have BK251 := n0_; have HB := n1_; have BK252 := n2_; have GW252 := n3_; have GE252 := n4_; have NB251_252 := n5_; have NB252_251 := n6_; clear n0_ n1_ n2_ n3_ n4_ n5_ n6_; clear hb hbox hg) | ((with_reducible refine gate_callee (f := 21) rfl ?_); refine goesL_ (some 17) rfl rfl Try.func21 (by kernel_rfl) rfl #[] rfl (by (try simp only [List.map_toArray, List.map_cons, List.map_nil]); first | done | rfl | (simp only [List.length_drop, List.length_take]; rfl)) ?_; (with_reducible refine (damsonlaw09_live.calls k  true _ A3.out).mono ?_); rintro e w8 ⟨rfl, hb⟩; refine ⟨_, rfl, ?_⟩; have n0_ := Aside0.mk (blk_below (g := gb251) (blkN BK251) hb); have n1_ := Aside0.mk (blk_below (g := gb252) (blkN BK252) hb); have n2_ := Aside0.mk (below_step (belN HB) hb); clear BK251; clear BK252; clear HB; have BK251 := n0_; have BK252 := n1_; have HB := n2_; clear n0_ n1_ n2_; (try clear hb); (try clear hb2); (try clear hk); (try clear hi)))
    (try simp only [Act.put, List.setIfInBounds_toArray, List.set_cons_zero, List.set_cons_succ])
    go_cut [28] (fun v28 wc => ∃ (kq : Nat) (x28_4 : Bool), v28 = .bool x28_4 ∧ Aside0 (damsonlaw09_ChannelTells.j0 kq x28_4 a0_0 a0_1 a0_2 a0_3 a0_4 l0_5 a0_6 a1_0 a1_1 a1_2 a1_3 a1_4 l1_5 a1_6 = some r) ∧ Aside0 (kq ≤ k) ∧ Aside0 (wc.heap[gb251]? = some (.cells #[.int .u64 a0_0, .int .u64 a0_1, .int .u64 a0_2, .int .u64 a0_3, .int .u64 a0_4, (.slice A0_5 l0_5.length c0_5), .bool a0_6] 25 (0, 0))) ∧ Aside0 (wc.heap[gb252]? = some (.cells #[.int .u64 a1_0, .int .u64 a1_1, .int .u64 a1_2, .int .u64 a1_3, .int .u64 a1_4, (.slice A1_5 l1_5.length c1_5), .bool a1_6] 25 (0, 0))) ∧ Aside0 (Below w.heap.size w wc))
    case first =>
      have H := HC5.out
      clear HC5
      by_cases c9 : (l0_5.length : Int) > 70
      · rw [if_pos c9] at H
        have c9b0 : decide (70 < (l0_5.length : Int)) = true := decide_eq_true c9
        have c9b1 : decide (70 < l0_5.length) = true := decide_eq_true (by omega)
        clear c9
        (first | rw [c9b0] | (simp only [i64_w, i32_w]; rw [c9b0]) | skip)
        have H' := Aside0.mk H
        clear H
        have hnb10 := NB251_252.out
        have hnc10 := NB252_251.out
        obtain ⟨hcz11_0, hcz11_1, hcz11_2, hcz11_3, hcz11_4, hcz11_5, hcz11_6, hfz11_0, hfz11_1, hfz11_2, hfz11_3, hfz11_4, hfz11_5, hfz11_6⟩ := cz7_ (w := w8) BK251.out
        go_wp2
        go_meet
        case rel => exact ⟨_, (true), (by first | rfl | (simp; done) | (simp [*]; done)), H', ⟨by first | omega | exact Nat.le_refl _⟩, ⟨by (with_reducible repeat (first | refine blk_drewN ?_ _ | refine blk_drew ?_ | refine blk_alloc ?_ _)); exact BK251.out⟩, ⟨by (with_reducible repeat (first | refine blk_drewN ?_ _ | refine blk_drew ?_ | refine blk_alloc ?_ _)); exact BK252.out⟩, ⟨by repeat (first | (with_reducible first | exact HB.out | apply below_alloc | apply pw_below_drewN | apply below_drew1 | refine below_set ?_ GE251.out | refine below_set ?_ GE252.out) | exact HB.out)⟩⟩
      · rw [if_neg c9] at H
        have c9b0 : decide (70 < (l0_5.length : Int)) = false := decide_eq_false c9
        have c9b1 : decide (70 < l0_5.length) = false := decide_eq_false (by omega)
        clear c9
        (first | rw [c9b0] | (simp only [i64_w, i32_w]; rw [c9b0]) | skip)
        have H' := Aside0.mk H
        clear H
        have hnb12 := NB251_252.out
        have hnc12 := NB252_251.out
        obtain ⟨hcz13_0, hcz13_1, hcz13_2, hcz13_3, hcz13_4, hcz13_5, hcz13_6, hfz13_0, hfz13_1, hfz13_2, hfz13_3, hfz13_4, hfz13_5, hfz13_6⟩ := cz7_ (w := w8) BK251.out
        obtain ⟨hcz14_0, hcz14_1, hcz14_2, hcz14_3, hcz14_4, hcz14_5, hcz14_6, hfz14_0, hfz14_1, hfz14_2, hfz14_3, hfz14_4, hfz14_5, hfz14_6⟩ := cz7_ (w := w8) BK252.out
        go_wp2
        go_meet
        case rel => exact ⟨_, (decide ((l1_5.length : Int) > 70)), (by first | rfl | (simp; done) | (simp [*]; done)), H', ⟨by first | omega | exact Nat.le_refl _⟩, ⟨by (with_reducible repeat (first | refine blk_drewN ?_ _ | refine blk_drew ?_ | refine blk_alloc ?_ _)); exact BK251.out⟩, ⟨by (with_reducible repeat (first | refine blk_drewN ?_ _ | refine blk_drew ?_ | refine blk_alloc ?_ _)); exact BK252.out⟩, ⟨by repeat (first | (with_reducible first | exact HB.out | apply below_alloc | apply pw_below_drewN | apply below_drew1 | refine below_set ?_ GE251.out | refine below_set ?_ GE252.out) | exact HB.out)⟩⟩
    case rest =>
      clear HC5
      try clear c1
      try clear c2
      try clear p2
      try clear c4
      try clear c6
      try clear c9
      try clear c9b0
      try clear c9b1
      try clear c10
      try clear c12
      try clear hcz11_0
      try clear hcz11_1
      try clear hcz11_2
      try clear hcz11_3
      try clear hcz11_4
      try clear hcz11_5
      try clear hcz11_6
      try clear hcz13_0
      try clear hcz13_1
      try clear hcz13_2
      try clear hcz13_3
      try clear hcz13_4
      try clear hcz13_5
      try clear hcz13_6
      try clear hcz14_0
      try clear hcz14_1
      try clear hcz14_2
      try clear hcz14_3
      try clear hcz14_4
      try clear hcz14_5
      try clear hcz14_6
      try clear hfz11_0
      try clear hfz11_1
      try clear hfz11_2
      try clear hfz11_3
      try clear hfz11_4
      try clear hfz11_5
      try clear hfz11_6
      try clear hfz13_0
      try clear hfz13_1
      try clear hfz13_2
      try clear hfz13_3
      try clear hfz13_4
      try clear hfz13_5
      try clear hfz13_6
      try clear hfz14_0
      try clear hfz14_1
      try clear hfz14_2
      try clear hfz14_3
      try clear hfz14_4
      try clear hfz14_5
      try clear hfz14_6
      obtain ⟨kq, x28_4, rfl, HA, HJ4, BK251, BK252, HB⟩ := hcut
      cases kq with
      | zero => exact absurd HA.out (by simp [damsonlaw09_ChannelTells.j0])
      | succ kj4 =>
        have H := HA.out
        clear HA
        simp only [damsonlaw09_ChannelTells.j0] at H
        by_cases c15 : x28_4 = true
        · subst c15
          have H1 : (some true) = some r := by rw [if_pos rfl] at H; exact H
          clear H
          have H := H1
          clear H1
          obtain rfl := Option.some.inj H
          go_wp2
          go_ret
          exact ⟨by first | rfl | (simp [errW_none, errW_some] <;> rfl) | (simp [*, errW_none, errW_some] <;> rfl), by repeat (first | (with_reducible first | exact HB.out | apply below_alloc | apply pw_below_drewN | apply below_drew1 | refine below_set ?_ GE251.out | refine below_set ?_ GE252.out) | exact HB.out)⟩
        · replace c15 := Bool.eq_false_iff.mpr c15
          subst c15
          have H1 : ((channel_Held.f kj4 a0_0 a0_1 a0_2 a0_3 a0_4 l0_5 a0_6).bind fun bt254 => ((damsonref09_Held.f kj4 a0_0 a0_1 a0_2 a0_3 a0_4 l0_5 a0_6).bind fun bt256 => ((channel_All.f kj4 a0_0 a0_1 a0_2 a0_3 a0_4 l0_5 a0_6).bind fun bt258 => ((damsonref09_All.f kj4 a0_0 a0_1 a0_2 a0_3 a0_4 l0_5 a0_6).bind fun bt260 => ((channel_Room.f kj4 a0_0 a0_1 a0_2 a0_3 a0_4 l0_5 a0_6).bind fun bt262 => ((damsonref09_Room.f kj4 a0_0 a0_1 a0_2 a0_3 a0_4 l0_5 a0_6).bind fun bt264 => (if bt254.1 = bt256.1 then (if bt254.2 = bt256.2 then (if bt258.1 = bt260.1 then (if bt258.2 = bt260.2 then (if bt262.1 = bt264.1 then (if bt262.2 = bt264.2 then ((channel_Check.f kj4 a0_0 a0_1 a0_2 a0_3 a0_4 l0_5 a0_6).bind fun t266 => ((damsonref09_Check.f kj4 a0_0 a0_1 a0_2 a0_3 a0_4 l0_5 a0_6).bind fun t267 => (if t266 = t267 then ((channel_Same.f kj4 a0_0 a0_1 a0_2 a0_3 a0_4 l0_5 a0_6 a1_0 a1_1 a1_2 a1_3 a1_4 l1_5 a1_6).bind fun t268 => ((damsonref09_Same.f kj4 a0_0 a0_1 a0_2 a0_3 a0_4 l0_5 a0_6 a1_0 a1_1 a1_2 a1_3 a1_4 l1_5 a1_6).bind fun t269 => (some (t268 == t269)))) else (some false)))) else (some false)) else (some false)) else (some false)) else (some false)) else (some false)) else (some false)))))))) = some r := by rw [if_neg (show ¬ (false = true) by decide)] at H; exact H
          clear H
          have H := H1
          clear H1
          replace H := Option.bind_eq_some_iff.mp H
          obtain ⟨⟨t254, t255⟩, A160, H⟩ := H
          replace H : ((damsonref09_Held.f kj4 a0_0 a0_1 a0_2 a0_3 a0_4 l0_5 a0_6).bind fun bt256 => ((channel_All.f kj4 a0_0 a0_1 a0_2 a0_3 a0_4 l0_5 a0_6).bind fun bt258 => ((damsonref09_All.f kj4 a0_0 a0_1 a0_2 a0_3 a0_4 l0_5 a0_6).bind fun bt260 => ((channel_Room.f kj4 a0_0 a0_1 a0_2 a0_3 a0_4 l0_5 a0_6).bind fun bt262 => ((damsonref09_Room.f kj4 a0_0 a0_1 a0_2 a0_3 a0_4 l0_5 a0_6).bind fun bt264 => (if t254 = bt256.1 then (if t255 = bt256.2 then (if bt258.1 = bt260.1 then (if bt258.2 = bt260.2 then (if bt262.1 = bt264.1 then (if bt262.2 = bt264.2 then ((channel_Check.f kj4 a0_0 a0_1 a0_2 a0_3 a0_4 l0_5 a0_6).bind fun t266 => ((damsonref09_Check.f kj4 a0_0 a0_1 a0_2 a0_3 a0_4 l0_5 a0_6).bind fun t267 => (if t266 = t267 then ((channel_Same.f kj4 a0_0 a0_1 a0_2 a0_3 a0_4 l0_5 a0_6 a1_0 a1_1 a1_2 a1_3 a1_4 l1_5 a1_6).bind fun t268 => ((damsonref09_Same.f kj4 a0_0 a0_1 a0_2 a0_3 a0_4 l0_5 a0_6 a1_0 a1_1 a1_2 a1_3 a1_4 l1_5 a1_6).bind fun t269 => (some (t268 == t269)))) else (some false)))) else (some false)) else (some false)) else (some false)) else (some false)) else (some false)) else (some false))))))) = some r := H
          have A16 := Aside0.mk A160
          clear A160
          replace H := Option.bind_eq_some_iff.mp H
          obtain ⟨⟨t256, t257⟩, A170, H⟩ := H
          replace H : ((channel_All.f kj4 a0_0 a0_1 a0_2 a0_3 a0_4 l0_5 a0_6).bind fun bt258 => ((damsonref09_All.f kj4 a0_0 a0_1 a0_2 a0_3 a0_4 l0_5 a0_6).bind fun bt260 => ((channel_Room.f kj4 a0_0 a0_1 a0_2 a0_3 a0_4 l0_5 a0_6).bind fun bt262 => ((damsonref09_Room.f kj4 a0_0 a0_1 a0_2 a0_3 a0_4 l0_5 a0_6).bind fun bt264 => (if t254 = t256 then (if t255 = t257 then (if bt258.1 = bt260.1 then (if bt258.2 = bt260.2 then (if bt262.1 = bt264.1 then (if bt262.2 = bt264.2 then ((channel_Check.f kj4 a0_0 a0_1 a0_2 a0_3 a0_4 l0_5 a0_6).bind fun t266 => ((damsonref09_Check.f kj4 a0_0 a0_1 a0_2 a0_3 a0_4 l0_5 a0_6).bind fun t267 => (if t266 = t267 then ((channel_Same.f kj4 a0_0 a0_1 a0_2 a0_3 a0_4 l0_5 a0_6 a1_0 a1_1 a1_2 a1_3 a1_4 l1_5 a1_6).bind fun t268 => ((damsonref09_Same.f kj4 a0_0 a0_1 a0_2 a0_3 a0_4 l0_5 a0_6 a1_0 a1_1 a1_2 a1_3 a1_4 l1_5 a1_6).bind fun t269 => (some (t268 == t269)))) else (some false)))) else (some false)) else (some false)) else (some false)) else (some false)) else (some false)) else (some false)))))) = some r := H
          have A17 := Aside0.mk A170
          clear A170
          replace H := Option.bind_eq_some_iff.mp H
          obtain ⟨⟨t258, t259⟩, A180, H⟩ := H
          replace H : ((damsonref09_All.f kj4 a0_0 a0_1 a0_2 a0_3 a0_4 l0_5 a0_6).bind fun bt260 => ((channel_Room.f kj4 a0_0 a0_1 a0_2 a0_3 a0_4 l0_5 a0_6).bind fun bt262 => ((damsonref09_Room.f kj4 a0_0 a0_1 a0_2 a0_3 a0_4 l0_5 a0_6).bind fun bt264 => (if t254 = t256 then (if t255 = t257 then (if t258 = bt260.1 then (if t259 = bt260.2 then (if bt262.1 = bt264.1 then (if bt262.2 = bt264.2 then ((channel_Check.f kj4 a0_0 a0_1 a0_2 a0_3 a0_4 l0_5 a0_6).bind fun t266 => ((damsonref09_Check.f kj4 a0_0 a0_1 a0_2 a0_3 a0_4 l0_5 a0_6).bind fun t267 => (if t266 = t267 then ((channel_Same.f kj4 a0_0 a0_1 a0_2 a0_3 a0_4 l0_5 a0_6 a1_0 a1_1 a1_2 a1_3 a1_4 l1_5 a1_6).bind fun t268 => ((damsonref09_Same.f kj4 a0_0 a0_1 a0_2 a0_3 a0_4 l0_5 a0_6 a1_0 a1_1 a1_2 a1_3 a1_4 l1_5 a1_6).bind fun t269 => (some (t268 == t269)))) else (some false)))) else (some false)) else (some false)) else (some false)) else (some false)) else (some false)) else (some false))))) = some r := H
          have A18 := Aside0.mk A180
          clear A180
          replace H := Option.bind_eq_some_iff.mp H
          obtain ⟨⟨t260, t261⟩, A190, H⟩ := H
          replace H : ((channel_Room.f kj4 a0_0 a0_1 a0_2 a0_3 a0_4 l0_5 a0_6).bind fun bt262 => ((damsonref09_Room.f kj4 a0_0 a0_1 a0_2 a0_3 a0_4 l0_5 a0_6).bind fun bt264 => (if t254 = t256 then (if t255 = t257 then (if t258 = t260 then (if t259 = t261 then (if bt262.1 = bt264.1 then (if bt262.2 = bt264.2 then ((channel_Check.f kj4 a0_0 a0_1 a0_2 a0_3 a0_4 l0_5 a0_6).bind fun t266 => ((damsonref09_Check.f kj4 a0_0 a0_1 a0_2 a0_3 a0_4 l0_5 a0_6).bind fun t267 => (if t266 = t267 then ((channel_Same.f kj4 a0_0 a0_1 a0_2 a0_3 a0_4 l0_5 a0_6 a1_0 a1_1 a1_2 a1_3 a1_4 l1_5 a1_6).bind fun t268 => ((damsonref09_Same.f kj4 a0_0 a0_1 a0_2 a0_3 a0_4 l0_5 a0_6 a1_0 a1_1 a1_2 a1_3 a1_4 l1_5 a1_6).bind fun t269 => (some (t268 == t269)))) else (some false)))) else (some false)) else (some false)) else (some false)) else (some false)) else (some false)) else (some false)))) = some r := H
          have A19 := Aside0.mk A190
          clear A190
          replace H := Option.bind_eq_some_iff.mp H
          obtain ⟨⟨t262, t263⟩, A200, H⟩ := H
          replace H : ((damsonref09_Room.f kj4 a0_0 a0_1 a0_2 a0_3 a0_4 l0_5 a0_6).bind fun bt264 => (if t254 = t256 then (if t255 = t257 then (if t258 = t260 then (if t259 = t261 then (if t262 = bt264.1 then (if t263 = bt264.2 then ((channel_Check.f kj4 a0_0 a0_1 a0_2 a0_3 a0_4 l0_5 a0_6).bind fun t266 => ((damsonref09_Check.f kj4 a0_0 a0_1 a0_2 a0_3 a0_4 l0_5 a0_6).bind fun t267 => (if t266 = t267 then ((channel_Same.f kj4 a0_0 a0_1 a0_2 a0_3 a0_4 l0_5 a0_6 a1_0 a1_1 a1_2 a1_3 a1_4 l1_5 a1_6).bind fun t268 => ((damsonref09_Same.f kj4 a0_0 a0_1 a0_2 a0_3 a0_4 l0_5 a0_6 a1_0 a1_1 a1_2 a1_3 a1_4 l1_5 a1_6).bind fun t269 => (some (t268 == t269)))) else (some false)))) else (some false)) else (some false)) else (some false)) else (some false)) else (some false)) else (some false))) = some r := H
          have A20 := Aside0.mk A200
          clear A200
          replace H := Option.bind_eq_some_iff.mp H
          obtain ⟨⟨t264, t265⟩, A210, H⟩ := H
          replace H : (if t254 = t256 then (if t255 = t257 then (if t258 = t260 then (if t259 = t261 then (if t262 = t264 then (if t263 = t265 then ((channel_Check.f kj4 a0_0 a0_1 a0_2 a0_3 a0_4 l0_5 a0_6).bind fun t266 => ((damsonref09_Check.f kj4 a0_0 a0_1 a0_2 a0_3 a0_4 l0_5 a0_6).bind fun t267 => (if t266 = t267 then ((channel_Same.f kj4 a0_0 a0_1 a0_2 a0_3 a0_4 l0_5 a0_6 a1_0 a1_1 a1_2 a1_3 a1_4 l1_5 a1_6).bind fun t268 => ((damsonref09_Same.f kj4 a0_0 a0_1 a0_2 a0_3 a0_4 l0_5 a0_6 a1_0 a1_1 a1_2 a1_3 a1_4 l1_5 a1_6).bind fun t269 => (some (t268 == t269)))) else (some false)))) else (some false)) else (some false)) else (some false)) else (some false)) else (some false)) else (some false)) = some r := H
          have A21 := Aside0.mk A210
          clear A210
          by_cases c22 : t254 = t256
          · rw [if_pos c22] at H
            have c22b0 : (t254 == t256) = true := beq_iff_eq.mpr c22
            have c22b1 : (t254 != t256) = false := bne_eq_false_iff_eq.mpr c22
            clear c22
            by_cases c23 : t255 = t257
            · rw [if_pos c23] at H
              have c23b0 : (t255 == t257) = true := beq_iff_eq.mpr c23
              have c23b1 : (t255 != t257) = false := bne_eq_false_iff_eq.mpr c23
              clear c23
              by_cases c24 : t258 = t260
              · rw [if_pos c24] at H
                have c24b0 : (t258 == t260) = true := beq_iff_eq.mpr c24
                have c24b1 : (t258 != t260) = false := bne_eq_false_iff_eq.mpr c24
                clear c24
                by_cases c25 : t259 = t261
                · rw [if_pos c25] at H
                  have c25b0 : (t259 == t261) = true := beq_iff_eq.mpr c25
                  have c25b1 : (t259 != t261) = false := bne_eq_false_iff_eq.mpr c25
                  clear c25
                  by_cases c26 : t262 = t264
                  · rw [if_pos c26] at H
                    have c26b0 : (t262 == t264) = true := beq_iff_eq.mpr c26
                    have c26b1 : (t262 != t264) = false := bne_eq_false_iff_eq.mpr c26
                    clear c26
                    by_cases c27 : t263 = t265
                    · rw [if_pos c27] at H
                      have c27b0 : (t263 == t265) = true := beq_iff_eq.mpr c27
                      have c27b1 : (t263 != t265) = false := bne_eq_false_iff_eq.mpr c27
                      clear c27
                      replace H := Option.bind_eq_some_iff.mp H
                      obtain ⟨t266, A280, H⟩ := H
                      replace H : ((damsonref09_Check.f kj4 a0_0 a0_1 a0_2 a0_3 a0_4 l0_5 a0_6).bind fun t267 => (if t266 = t267 then ((channel_Same.f kj4 a0_0 a0_1 a0_2 a0_3 a0_4 l0_5 a0_6 a1_0 a1_1 a1_2 a1_3 a1_4 l1_5 a1_6).bind fun t268 => ((damsonref09_Same.f kj4 a0_0 a0_1 a0_2 a0_3 a0_4 l0_5 a0_6 a1_0 a1_1 a1_2 a1_3 a1_4 l1_5 a1_6).bind fun t269 => (some (t268 == t269)))) else (some false))) = some r := H
                      have A28 := Aside0.mk A280
                      clear A280
                      replace H := Option.bind_eq_some_iff.mp H
                      obtain ⟨t267, A290, H⟩ := H
                      replace H : (if t266 = t267 then ((channel_Same.f kj4 a0_0 a0_1 a0_2 a0_3 a0_4 l0_5 a0_6 a1_0 a1_1 a1_2 a1_3 a1_4 l1_5 a1_6).bind fun t268 => ((damsonref09_Same.f kj4 a0_0 a0_1 a0_2 a0_3 a0_4 l0_5 a0_6 a1_0 a1_1 a1_2 a1_3 a1_4 l1_5 a1_6).bind fun t269 => (some (t268 == t269)))) else (some false)) = some r := H
                      have A29 := Aside0.mk A290
                      clear A290
                      by_cases c30 : t266 = t267
                      · rw [if_pos c30] at H
                        have c30b0 : (t266 == t267) = true := beq_iff_eq.mpr c30
                        have c30b1 : (t266 != t267) = false := bne_eq_false_iff_eq.mpr c30
                        clear c30
                        replace H := Option.bind_eq_some_iff.mp H
                        obtain ⟨t268, A310, H⟩ := H
                        replace H : ((damsonref09_Same.f kj4 a0_0 a0_1 a0_2 a0_3 a0_4 l0_5 a0_6 a1_0 a1_1 a1_2 a1_3 a1_4 l1_5 a1_6).bind fun t269 => (some (t268 == t269))) = some r := H
                        have A31 := Aside0.mk A310
                        clear A310
                        replace H := Option.bind_eq_some_iff.mp H
                        obtain ⟨t269, A320, H⟩ := H
                        replace H : (some (t268 == t269)) = some r := H
                        have A32 := Aside0.mk A320
                        clear A320
                        obtain rfl := Option.some.inj H
                        have hnb33 := NB251_252.out
                        have hnc33 := NB252_251.out
                        obtain ⟨hcz34_0, hcz34_1, hcz34_2, hcz34_3, hcz34_4, hcz34_5, hcz34_6, hfz34_0, hfz34_1, hfz34_2, hfz34_3, hfz34_4, hfz34_5, hfz34_6⟩ := cz7_ (w := wc) BK251.out
                        try go_wp2_with (first | ((with_reducible refine gate_callee (f := 28) rfl ?_); refine goesL_ (some 31) rfl rfl Try.func28 (by kernel_rfl) rfl #[.agg #[.int .u64 a0_0, .int .u64 a0_1, .int .u64 a0_2, .int .u64 a0_3, .int .u64 a0_4, .slice A0_5 l0_5.length c0_5, .bool a0_6]] rfl (by (try simp only [List.map_toArray, List.map_cons, List.map_nil]); first | done | rfl | (simp only [List.length_drop, List.length_take]; rfl)) ?_; (with_reducible refine (channel_Held.calls kj4 a0_0 a0_1 a0_2 a0_3 a0_4 _ _ l0_5 a0_6 t254 t255 _ ?side1 ?side2 A16.out).mono ?_); (case side1 => repeat (first | exact (Kd.C_below HR0_5.out HB.out) | (with_reducible refine Kd.C_alloc ?_ _) | (with_reducible refine Kd.C_drewN ?_ _) | (with_reducible refine Kd.C_drew ?_))); (case side2 => exact HC0_5.out); rintro e w35 ⟨rfl, hb⟩; refine ⟨_, rfl, ?_⟩; have n0_ := Aside0.mk (blk_below (g := gb251) (blkN BK251) hb); have n1_ := Aside0.mk (blk_below (g := gb252) (blkN BK252) hb); have n2_ := Aside0.mk (below_step (belN HB) hb); clear BK251; clear BK252; clear HB; have BK251 := n0_; have BK252 := n1_; have HB := n2_; clear n0_ n1_ n2_; (try clear hb); (try clear hb2); (try clear hk); (try clear hi); obtain ⟨hcz36_0, hcz36_1, hcz36_2, hcz36_3, hcz36_4, hcz36_5, hcz36_6, hfz36_0, hfz36_1, hfz36_2, hfz36_3, hfz36_4, hfz36_5, hfz36_6⟩ := cz7_ (w := w35) BK251.out) | ((with_reducible refine gate_callee (f := 29) rfl ?_); refine goesL_ (some 36) rfl rfl Try.func29 (by kernel_rfl) rfl #[.agg #[.int .u64 a0_0, .int .u64 a0_1, .int .u64 a0_2, .int .u64 a0_3, .int .u64 a0_4, .slice A0_5 l0_5.length c0_5, .bool a0_6]] rfl (by (try simp only [List.map_toArray, List.map_cons, List.map_nil]); first | done | rfl | (simp only [List.length_drop, List.length_take]; rfl)) ?_; (with_reducible refine (damsonref09_Held.calls kj4 a0_0 a0_1 a0_2 a0_3 a0_4 _ _ l0_5 a0_6 t256 t257 _ ?side1 ?side2 A17.out).mono ?_); (case side1 => repeat (first | exact (Kd.C_below HR0_5.out HB.out) | (with_reducible refine Kd.C_alloc ?_ _) | (with_reducible refine Kd.C_drewN ?_ _) | (with_reducible refine Kd.C_drew ?_))); (case side2 => exact HC0_5.out); rintro e w37 ⟨rfl, hb⟩; refine ⟨_, rfl, ?_⟩; have n0_ := Aside0.mk (blk_below (g := gb251) (blkN BK251) hb); have n1_ := Aside0.mk (blk_below (g := gb252) (blkN BK252) hb); have n2_ := Aside0.mk (below_step (belN HB) hb); clear BK251; clear BK252; clear HB; have BK251 := n0_; have BK252 := n1_; have HB := n2_; clear n0_ n1_ n2_; (try clear hb); (try clear hb2); (try clear hk); (try clear hi); obtain ⟨hcz38_0, hcz38_1, hcz38_2, hcz38_3, hcz38_4, hcz38_5, hcz38_6, hfz38_0, hfz38_1, hfz38_2, hfz38_3, hfz38_4, hfz38_5, hfz38_6⟩ := cz7_ (w := w37) BK251.out) | ((with_reducible refine gate_callee (f := 30) rfl ?_); refine goesL_ (some 41) rfl rfl Try.func30 (by kernel_rfl) rfl #[.agg #[.int .u64 a0_0, .int .u64 a0_1, .int .u64 a0_2, .int .u64 a0_3, .int .u64 a0_4, .slice A0_5 l0_5.length c0_5, .bool a0_6]] rfl (by (try simp only [List.map_toArray, List.map_cons, List.map_nil]); first | done | rfl | (simp only [List.length_drop, List.length_take]; rfl)) ?_; (with_reducible refine (channel_All.calls kj4 a0_0 a0_1 a0_2 a0_3 a0_4 _ _ l0_5 a0_6 t258 t259 _ ?side1 ?side2 A18.out).mono ?_); (case side1 => repeat (first | exact (Kd.C_below HR0_5.out HB.out) | (with_reducible refine Kd.C_alloc ?_ _) | (with_reducible refine Kd.C_drewN ?_ _) | (with_reducible refine Kd.C_drew ?_))); (case side2 => exact HC0_5.out); rintro e w39 ⟨rfl, hb⟩; refine ⟨_, rfl, ?_⟩; have n0_ := Aside0.mk (blk_below (g := gb251) (blkN BK251) hb); have n1_ := Aside0.mk (blk_below (g := gb252) (blkN BK252) hb); have n2_ := Aside0.mk (below_step (belN HB) hb); clear BK251; clear BK252; clear HB; have BK251 := n0_; have BK252 := n1_; have HB := n2_; clear n0_ n1_ n2_; (try clear hb); (try clear hb2); (try clear hk); (try clear hi); obtain ⟨hcz40_0, hcz40_1, hcz40_2, hcz40_3, hcz40_4, hcz40_5, hcz40_6, hfz40_0, hfz40_1, hfz40_2, hfz40_3, hfz40_4, hfz40_5, hfz40_6⟩ := cz7_ (w := w39) BK251.out) | ((with_reducible refine gate_callee (f := 31) rfl ?_); refine goesL_ (some 46) rfl rfl Try.func31 (by kernel_rfl) rfl #[.agg #[.int .u64 a0_0, .int .u64 a0_1, .int .u64 a0_2, .int .u64 a0_3, .int .u64 a0_4, .slice A0_5 l0_5.length c0_5, .bool a0_6]] rfl (by (try simp only [List.map_toArray, List.map_cons, List.map_nil]); first | done | rfl | (simp only [List.length_drop, List.length_take]; rfl)) ?_; (with_reducible refine (damsonref09_All.calls kj4 a0_0 a0_1 a0_2 a0_3 a0_4 _ _ l0_5 a0_6 t260 t261 _ ?side1 ?side2 A19.out).mono ?_); (case side1 => repeat (first | exact (Kd.C_below HR0_5.out HB.out) | (with_reducible refine Kd.C_alloc ?_ _) | (with_reducible refine Kd.C_drewN ?_ _) | (with_reducible refine Kd.C_drew ?_))); (case side2 => exact HC0_5.out); rintro e w41 ⟨rfl, hb⟩; refine ⟨_, rfl, ?_⟩; have n0_ := Aside0.mk (blk_below (g := gb251) (blkN BK251) hb); have n1_ := Aside0.mk (blk_below (g := gb252) (blkN BK252) hb); have n2_ := Aside0.mk (below_step (belN HB) hb); clear BK251; clear BK252; clear HB; have BK251 := n0_; have BK252 := n1_; have HB := n2_; clear n0_ n1_ n2_; (try clear hb); (try clear hb2); (try clear hk); (try clear hi); obtain ⟨hcz42_0, hcz42_1, hcz42_2, hcz42_3, hcz42_4, hcz42_5, hcz42_6, hfz42_0, hfz42_1, hfz42_2, hfz42_3, hfz42_4, hfz42_5, hfz42_6⟩ := cz7_ (w := w41) BK251.out) | ((with_reducible refine gate_callee (f := 22) rfl ?_); refine goesL_ (some 51) rfl rfl Try.func22 (by kernel_rfl) rfl #[.agg #[.int .u64 a0_0, .int .u64 a0_1, .int .u64 a0_2, .int .u64 a0_3, .int .u64 a0_4, .slice A0_5 l0_5.length c0_5, .bool a0_6]] rfl (by (try simp only [List.map_toArray, List.map_cons, List.map_nil]); first | done | rfl | (simp only [List.length_drop, List.length_take]; rfl)) ?_; (with_reducible refine (channel_Room.calls kj4 a0_0 a0_1 a0_2 a0_3 a0_4 _ _ l0_5 a0_6 t262 t263 _ ?side1 ?side2 A20.out).mono ?_); (case side1 => repeat (first | exact (Kd.C_below HR0_5.out HB.out) | (with_reducible refine Kd.C_alloc ?_ _) | (with_reducible refine Kd.C_drewN ?_ _) | (with_reducible refine Kd.C_drew ?_))); (case side2 => exact HC0_5.out); rintro e w43 ⟨rfl, hb⟩; refine ⟨_, rfl, ?_⟩; have n0_ := Aside0.mk (blk_below (g := gb251) (blkN BK251) hb); have n1_ := Aside0.mk (blk_below (g := gb252) (blkN BK252) hb); have n2_ := Aside0.mk (below_step (belN HB) hb); clear BK251; clear BK252; clear HB; have BK251 := n0_; have BK252 := n1_; have HB := n2_; clear n0_ n1_ n2_; (try clear hb); (try clear hb2); (try clear hk); (try clear hi); obtain ⟨hcz44_0, hcz44_1, hcz44_2, hcz44_3, hcz44_4, hcz44_5, hcz44_6, hfz44_0, hfz44_1, hfz44_2, hfz44_3, hfz44_4, hfz44_5, hfz44_6⟩ := cz7_ (w := w43) BK251.out) | ((with_reducible refine gate_callee (f := 32) rfl ?_); refine goesL_ (some 56) rfl rfl Try.func32 (by kernel_rfl) rfl #[.agg #[.int .u64 a0_0, .int .u64 a0_1, .int .u64 a0_2, .int .u64 a0_3, .int .u64 a0_4, .slice A0_5 l0_5.length c0_5, .bool a0_6]] rfl (by (try simp only [List.map_toArray, List.map_cons, List.map_nil]); first | done | rfl | (simp only [List.length_drop, List.length_take]; rfl)) ?_; (with_reducible refine (damsonref09_Room.calls kj4 a0_0 a0_1 a0_2 a0_3 a0_4 _ _ l0_5 a0_6 t264 t265 _ ?side1 ?side2 A21.out).mono ?_); (case side1 => repeat (first | exact (Kd.C_below HR0_5.out HB.out) | (with_reducible refine Kd.C_alloc ?_ _) | (with_reducible refine Kd.C_drewN ?_ _) | (with_reducible refine Kd.C_drew ?_))); (case side2 => exact HC0_5.out); rintro e w45 ⟨rfl, hb⟩; refine ⟨_, rfl, ?_⟩; have n0_ := Aside0.mk (blk_below (g := gb251) (blkN BK251) hb); have n1_ := Aside0.mk (blk_below (g := gb252) (blkN BK252) hb); have n2_ := Aside0.mk (below_step (belN HB) hb); clear BK251; clear BK252; clear HB; have BK251 := n0_; have BK252 := n1_; have HB := n2_; clear n0_ n1_ n2_; (try clear hb); (try clear hb2); (try clear hk); (try clear hi)))
                        have n0_ := Aside0.mk (blk_drew BK251.out)
                        have n1_ := Aside0.mk (blk_drew BK252.out)
                        have n2_ := Aside0.mk (below_drew1 HB.out)
                        clear BK251
                        clear BK252
                        clear HB
                        have BK251 := n0_
                        have BK252 := n1_
                        have HB := n2_
                        clear n0_ n1_ n2_
                        refine start_ (n := 45) (S := fun w' => w'.cell? ⟨gb251, 0, none⟩ = some (.int .u64 a0_0) ∧ w'.cell? ⟨gb251, 1, none⟩ = some (.int .u64 a0_1) ∧ w'.cell? ⟨gb251, 2, none⟩ = some (.int .u64 a0_2) ∧ w'.cell? ⟨gb251, 3, none⟩ = some (.int .u64 a0_3) ∧ w'.cell? ⟨gb251, 4, none⟩ = some (.int .u64 a0_4) ∧ w'.cell? ⟨gb251, 5, none⟩ = some (.slice A0_5 l0_5.length c0_5) ∧ w'.cell? ⟨gb251, 6, none⟩ = some (.bool a0_6) ∧ w'.cell? ⟨gb252, 0, none⟩ = some (.int .u64 a1_0) ∧ w'.cell? ⟨gb252, 1, none⟩ = some (.int .u64 a1_1) ∧ w'.cell? ⟨gb252, 2, none⟩ = some (.int .u64 a1_2) ∧ w'.cell? ⟨gb252, 3, none⟩ = some (.int .u64 a1_3) ∧ w'.cell? ⟨gb252, 4, none⟩ = some (.int .u64 a1_4) ∧ w'.cell? ⟨gb252, 5, none⟩ = some (.slice A1_5 l1_5.length c1_5) ∧ w'.cell? ⟨gb252, 6, none⟩ = some (.bool a1_6)) (ds := []) #[false, false, false, false, false, false, false, false, false, false, false, false, false, false, false, false, false, false, false, false, false, false, false, false, false, false, false, false, false, false, false, false, false, false, false, false, false, false, false, false, false, false, false, false, false] (by kernel_rfl) rfl rfl ⟨(blk_cell BK251.out 0).trans rfl, (blk_cell BK251.out 1).trans rfl, (blk_cell BK251.out 2).trans rfl, (blk_cell BK251.out 3).trans rfl, (blk_cell BK251.out 4).trans rfl, (blk_cell BK251.out 5).trans rfl, (blk_cell BK251.out 6).trans rfl, (blk_cell BK252.out 0).trans rfl, (blk_cell BK252.out 1).trans rfl, (blk_cell BK252.out 2).trans rfl, (blk_cell BK252.out 3).trans rfl, (blk_cell BK252.out 4).trans rfl, (blk_cell BK252.out 5).trans rfl, (blk_cell BK252.out 6).trans rfl⟩ (fun hHeld => ?_); refine with_tabW damsonlaw09_ChannelTells.tab11 damsonlaw09_ChannelTells.bits11 (fun HT_ HW_ => ?_)
                        generalize w45.drew = w46 at BK251 BK252 HB hHeld ⊢
                        refine pureA_ 0 59 (bm 45 1) ?_
                        refine pureA_ 1 60 (bm 45 3) ?_
                        refine pureA_ 2 61 (bm 45 7) ?_
                        refine pureA_ 3 62 (bm 45 15) ?_
                        refine pureA_ 4 63 (bm 45 31) ?_
                        refine pureA_ 5 64 (bm 45 63) ?_
                        refine pureA_ 6 65 (bm 45 127) ?_
                        refine pureA_ 7 66 (bm 45 255) ?_
                        refine pureA_ 8 67 (bm 45 511) ?_
                        refine pureA_ 9 68 (bm 45 1023) ?_
                        refine pureA_ 10 69 (bm 45 2047) ?_
                        refine pureA_ 11 70 (bm 45 4095) ?_
                        refine pureA_ 12 71 (bm 45 8191) ?_
                        refine pureA_ 13 72 (bm 45 16383) ?_
                        refine pureA_ 14 73 (bm 45 32767) ?_
                        refine pureA_ 15 74 (bm 45 65535) ?_
                        refine pureA_ 16 75 (bm 45 131071) ?_
                        refine pureA_ 17 76 (bm 45 262143) ?_
                        refine pureA_ 18 77 (bm 45 524287) ?_
                        refine pureA_ 19 78 (bm 45 1048575) ?_
                        refine pureA_ 20 79 (bm 45 2097151) ?_
                        refine pureA_ 21 80 (bm 45 4194303) ?_
                        refine pureA_ 22 81 (bm 45 8388607) ?_
                        refine pureA_ 23 82 (bm 45 16777215) ?_
                        refine pureA_ 24 83 (bm 45 33554431) ?_
                        refine pureA_ 25 84 (bm 45 67108863) ?_
                        refine pureA_ 26 85 (bm 45 134217727) ?_
                        refine pureA_ 27 86 (bm 45 268435455) ?_
                        refine pureA_ 28 87 (bm 45 536870911) ?_
                        refine take_ (i := 29) (N := some 88) (v := ?_) (a' := ?_) #[true, true, true, true, true, true, true, true, true, true, true, true, true, true, true, true, true, true, true, true, true, true, true, true, true, true, true, true, true, true, false, false, false, false, false, false, false, false, false, false, false, false, false, false, false] rfl rfl (take_ofW HT_.out HW_.out (by kernel_rfl)) (fun _ _ _ h => h) (Or.inl ⟨by rfl, ?_⟩) hHeld ?_ ?_
                        rotate_left
                        · rintro w' ⟨s0, s1, s2, s3, s4, s5, s6, s7, s8, s9, s10, s11, s12, s13⟩
                          go_simp
                          with_reducible rfl
                        rotate_left
                        · simp only [Act.put, List.setIfInBounds_toArray, List.set_cons_zero, List.set_cons_succ, i64_w, i32_w]
                          rfl
                        refine take_ (i := 31) (N := some 90) (v := ?_) (a' := ?_) #[true, true, true, true, true, true, true, true, true, true, true, true, true, true, true, true, true, true, true, true, true, true, true, true, true, true, true, true, true, true, false, true, false, false, false, false, false, false, false, false, false, false, false, false, false] rfl rfl (take_ofW HT_.out HW_.out (by kernel_rfl)) (fun _ _ _ h => h) (Or.inl ⟨by rfl, ?_⟩) hHeld ?_ ?_
                        rotate_left
                        · rintro w' ⟨s0, s1, s2, s3, s4, s5, s6, s7, s8, s9, s10, s11, s12, s13⟩
                          go_simp
                          with_reducible rfl
                        rotate_left
                        · simp only [Act.put, List.setIfInBounds_toArray, List.set_cons_zero, List.set_cons_succ, i64_w, i32_w]
                          rfl
                        refine one_ (i := 30) (N := some 89) #[true, true, true, true, true, true, true, true, true, true, true, true, true, true, true, true, true, true, true, true, true, true, true, true, true, true, true, true, true, true, true, true, false, false, false, false, false, false, false, false, false, false, false, false, false] rfl rfl (one_of HT_.out (by kernel_rfl)) (by decide) (fun K hK => ?_)
                        refine goes_ Try.func33 (by kernel_rfl) rfl #[.agg #[.int .u64 a0_0, .int .u64 a0_1, .int .u64 a0_2, .int .u64 a0_3, .int .u64 a0_4, .slice A0_5 l0_5.length c0_5, .bool a0_6]] (by rfl) rfl rfl (by (try simp only [List.map_toArray, List.map_cons, List.map_nil]); first | done | rfl | (simp only [List.length_drop, List.length_take]; rfl)) ?_
                        with_reducible refine (channel_Check.calls kj4 a0_0 a0_1 a0_2 a0_3 a0_4 _ _ l0_5 a0_6 t266 _ ?side1 ?side2 A28.out).mono ?_
                        (case side1 => repeat (first | exact (Kd.C_below HR0_5.out HB.out) | (with_reducible refine Kd.C_alloc ?_ _) | (with_reducible refine Kd.C_drewN ?_ _) | (with_reducible refine Kd.C_drew ?_)))
                        (case side2 => exact HC0_5.out)
                        rintro e w47 ⟨rfl, hb⟩
                        refine ⟨_, rfl, ?_⟩
                        have n0_ := Aside0.mk (blk_below (g := gb251) (blkN BK251) hb)
                        have n1_ := Aside0.mk (blk_below (g := gb252) (blkN BK252) hb)
                        have n2_ := Aside0.mk (below_step (belN HB) hb)
                        clear BK251
                        clear BK252
                        clear HB
                        have BK251 := n0_
                        have BK252 := n1_
                        have HB := n2_
                        clear n0_ n1_ n2_
                        (try clear hb)
                        (try clear hb2)
                        (try clear hk)
                        (try clear hi)
                        refine hK.out _ _ ⟨(blk_cell BK251.out 0).trans rfl, (blk_cell BK251.out 1).trans rfl, (blk_cell BK251.out 2).trans rfl, (blk_cell BK251.out 3).trans rfl, (blk_cell BK251.out 4).trans rfl, (blk_cell BK251.out 5).trans rfl, (blk_cell BK251.out 6).trans rfl, (blk_cell BK252.out 0).trans rfl, (blk_cell BK252.out 1).trans rfl, (blk_cell BK252.out 2).trans rfl, (blk_cell BK252.out 3).trans rfl, (blk_cell BK252.out 4).trans rfl, (blk_cell BK252.out 5).trans rfl, (blk_cell BK252.out 6).trans rfl⟩ (fun hHeld => ?_)
                        clear hK K
                        refine norm_ (a' := ?_) ?_ ?_
                        rotate_left
                        · show Act.put _ (some 89) _ = _
                          simp only [Act.put, List.setIfInBounds_toArray, List.set_cons_zero, List.set_cons_succ, i64_w, i32_w]
                          rfl
                        refine one_ (i := 32) (N := some 91) #[true, true, true, true, true, true, true, true, true, true, true, true, true, true, true, true, true, true, true, true, true, true, true, true, true, true, true, true, true, true, true, true, true, false, false, false, false, false, false, false, false, false, false, false, false] rfl rfl (one_of HT_.out (by kernel_rfl)) (by decide) (fun K hK => ?_)
                        refine goes_ Try.func34 (by kernel_rfl) rfl #[.agg #[.int .u64 a0_0, .int .u64 a0_1, .int .u64 a0_2, .int .u64 a0_3, .int .u64 a0_4, .slice A0_5 l0_5.length c0_5, .bool a0_6]] (by rfl) rfl rfl (by (try simp only [List.map_toArray, List.map_cons, List.map_nil]); first | done | rfl | (simp only [List.length_drop, List.length_take]; rfl)) ?_
                        with_reducible refine (damsonref09_Check.calls kj4 a0_0 a0_1 a0_2 a0_3 a0_4 _ _ l0_5 a0_6 t267 _ ?side1 ?side2 A29.out).mono ?_
                        (case side1 => repeat (first | exact (Kd.C_below HR0_5.out HB.out) | (with_reducible refine Kd.C_alloc ?_ _) | (with_reducible refine Kd.C_drewN ?_ _) | (with_reducible refine Kd.C_drew ?_)))
                        (case side2 => exact HC0_5.out)
                        rintro e w48 ⟨rfl, hb⟩
                        refine ⟨_, rfl, ?_⟩
                        have n0_ := Aside0.mk (blk_below (g := gb251) (blkN BK251) hb)
                        have n1_ := Aside0.mk (blk_below (g := gb252) (blkN BK252) hb)
                        have n2_ := Aside0.mk (below_step (belN HB) hb)
                        clear BK251
                        clear BK252
                        clear HB
                        have BK251 := n0_
                        have BK252 := n1_
                        have HB := n2_
                        clear n0_ n1_ n2_
                        (try clear hb)
                        (try clear hb2)
                        (try clear hk)
                        (try clear hi)
                        refine hK.out _ _ ⟨(blk_cell BK251.out 0).trans rfl, (blk_cell BK251.out 1).trans rfl, (blk_cell BK251.out 2).trans rfl, (blk_cell BK251.out 3).trans rfl, (blk_cell BK251.out 4).trans rfl, (blk_cell BK251.out 5).trans rfl, (blk_cell BK251.out 6).trans rfl, (blk_cell BK252.out 0).trans rfl, (blk_cell BK252.out 1).trans rfl, (blk_cell BK252.out 2).trans rfl, (blk_cell BK252.out 3).trans rfl, (blk_cell BK252.out 4).trans rfl, (blk_cell BK252.out 5).trans rfl, (blk_cell BK252.out 6).trans rfl⟩ (fun hHeld => ?_)
                        clear hK K
                        refine norm_ (a' := ?_) ?_ ?_
                        rotate_left
                        · show Act.put _ (some 91) _ = _
                          simp only [Act.put, List.setIfInBounds_toArray, List.set_cons_zero, List.set_cons_succ, i64_w, i32_w]
                          rfl
                        refine pureA_ 33 92 (bm 45 17179869183) ?_
                        refine pureA_ 34 93 (bm 45 34359738367) ?_
                        refine pureA_ 35 94 (bm 45 68719476735) ?_
                        refine take_ (i := 36) (N := some 95) (v := ?_) (a' := ?_) #[true, true, true, true, true, true, true, true, true, true, true, true, true, true, true, true, true, true, true, true, true, true, true, true, true, true, true, true, true, true, true, true, true, true, true, true, true, false, false, false, false, false, false, false, false] rfl rfl (take_ofW HT_.out HW_.out (by kernel_rfl)) (fun _ _ _ h => h) (Or.inl ⟨by rfl, ?_⟩) hHeld ?_ ?_
                        rotate_left
                        · rintro w' ⟨s0, s1, s2, s3, s4, s5, s6, s7, s8, s9, s10, s11, s12, s13⟩
                          go_simp
                          with_reducible rfl
                        rotate_left
                        · simp only [Act.put, List.setIfInBounds_toArray, List.set_cons_zero, List.set_cons_succ, i64_w, i32_w]
                          rfl
                        refine take_ (i := 37) (N := some 96) (v := ?_) (a' := ?_) #[true, true, true, true, true, true, true, true, true, true, true, true, true, true, true, true, true, true, true, true, true, true, true, true, true, true, true, true, true, true, true, true, true, true, true, true, true, true, false, false, false, false, false, false, false] rfl rfl (take_ofW HT_.out HW_.out (by kernel_rfl)) (fun _ _ _ h => h) (Or.inl ⟨by rfl, ?_⟩) hHeld ?_ ?_
                        rotate_left
                        · rintro w' ⟨s0, s1, s2, s3, s4, s5, s6, s7, s8, s9, s10, s11, s12, s13⟩
                          go_simp
                          with_reducible rfl
                        rotate_left
                        · simp only [Act.put, List.setIfInBounds_toArray, List.set_cons_zero, List.set_cons_succ, i64_w, i32_w]
                          rfl
                        refine take_ (i := 39) (N := some 98) (v := ?_) (a' := ?_) #[true, true, true, true, true, true, true, true, true, true, true, true, true, true, true, true, true, true, true, true, true, true, true, true, true, true, true, true, true, true, true, true, true, true, true, true, true, true, false, true, false, false, false, false, false] rfl rfl (take_ofW HT_.out HW_.out (by kernel_rfl)) (fun _ _ _ h => h) (Or.inl ⟨by rfl, ?_⟩) hHeld ?_ ?_
                        rotate_left
                        · rintro w' ⟨s0, s1, s2, s3, s4, s5, s6, s7, s8, s9, s10, s11, s12, s13⟩
                          go_simp
                          with_reducible rfl
                        rotate_left
                        · simp only [Act.put, List.setIfInBounds_toArray, List.set_cons_zero, List.set_cons_succ, i64_w, i32_w]
                          rfl
                        refine take_ (i := 40) (N := some 99) (v := ?_) (a' := ?_) #[true, true, true, true, true, true, true, true, true, true, true, true, true, true, true, true, true, true, true, true, true, true, true, true, true, true, true, true, true, true, true, true, true, true, true, true, true, true, false, true, true, false, false, false, false] rfl rfl (take_ofW HT_.out HW_.out (by kernel_rfl)) (fun _ _ _ h => h) (Or.inl ⟨by rfl, ?_⟩) hHeld ?_ ?_
                        rotate_left
                        · rintro w' ⟨s0, s1, s2, s3, s4, s5, s6, s7, s8, s9, s10, s11, s12, s13⟩
                          go_simp
                          with_reducible rfl
                        rotate_left
                        · simp only [Act.put, List.setIfInBounds_toArray, List.set_cons_zero, List.set_cons_succ, i64_w, i32_w]
                          rfl
                        refine one_ (i := 38) (N := some 97) #[true, true, true, true, true, true, true, true, true, true, true, true, true, true, true, true, true, true, true, true, true, true, true, true, true, true, true, true, true, true, true, true, true, true, true, true, true, true, true, true, true, false, false, false, false] rfl rfl (one_of HT_.out (by kernel_rfl)) (by decide) (fun K hK => ?_)
                        refine goes_ Try.func26 (by kernel_rfl) rfl #[.agg #[.int .u64 a0_0, .int .u64 a0_1, .int .u64 a0_2, .int .u64 a0_3, .int .u64 a0_4, .slice A0_5 l0_5.length c0_5, .bool a0_6], .agg #[.int .u64 a1_0, .int .u64 a1_1, .int .u64 a1_2, .int .u64 a1_3, .int .u64 a1_4, .slice A1_5 l1_5.length c1_5, .bool a1_6]] (by rfl) rfl rfl (by (try simp only [List.map_toArray, List.map_cons, List.map_nil]); first | done | rfl | (simp only [List.length_drop, List.length_take]; rfl)) ?_
                        with_reducible refine (channel_Same.calls kj4 a0_0 a0_1 a0_2 a0_3 a0_4 _ _ l0_5 a0_6 a1_0 a1_1 a1_2 a1_3 a1_4 _ _ l1_5 a1_6 t268 _ ?side1 ?side2 ?side3 ?side4 A31.out).mono ?_
                        (case side1 => repeat (first | exact (Kd.C_below HR0_5.out HB.out) | (with_reducible refine Kd.C_alloc ?_ _) | (with_reducible refine Kd.C_drewN ?_ _) | (with_reducible refine Kd.C_drew ?_)))
                        (case side2 => exact HC0_5.out)
                        (case side3 => repeat (first | exact (Kd.C_below HR1_5.out HB.out) | (with_reducible refine Kd.C_alloc ?_ _) | (with_reducible refine Kd.C_drewN ?_ _) | (with_reducible refine Kd.C_drew ?_)))
                        (case side4 => exact HC1_5.out)
                        rintro e w49 ⟨rfl, hb⟩
                        refine ⟨_, rfl, ?_⟩
                        have n0_ := Aside0.mk (blk_below (g := gb251) (blkN BK251) hb)
                        have n1_ := Aside0.mk (blk_below (g := gb252) (blkN BK252) hb)
                        have n2_ := Aside0.mk (below_step (belN HB) hb)
                        clear BK251
                        clear BK252
                        clear HB
                        have BK251 := n0_
                        have BK252 := n1_
                        have HB := n2_
                        clear n0_ n1_ n2_
                        (try clear hb)
                        (try clear hb2)
                        (try clear hk)
                        (try clear hi)
                        refine hK.out _ _ ⟨(blk_cell BK251.out 0).trans rfl, (blk_cell BK251.out 1).trans rfl, (blk_cell BK251.out 2).trans rfl, (blk_cell BK251.out 3).trans rfl, (blk_cell BK251.out 4).trans rfl, (blk_cell BK251.out 5).trans rfl, (blk_cell BK251.out 6).trans rfl, (blk_cell BK252.out 0).trans rfl, (blk_cell BK252.out 1).trans rfl, (blk_cell BK252.out 2).trans rfl, (blk_cell BK252.out 3).trans rfl, (blk_cell BK252.out 4).trans rfl, (blk_cell BK252.out 5).trans rfl, (blk_cell BK252.out 6).trans rfl⟩ (fun hHeld => ?_)
                        clear hK K
                        refine norm_ (a' := ?_) ?_ ?_
                        rotate_left
                        · show Act.put _ (some 97) _ = _
                          simp only [Act.put, List.setIfInBounds_toArray, List.set_cons_zero, List.set_cons_succ, i64_w, i32_w]
                          rfl
                        refine one_ (i := 41) (N := some 100) #[true, true, true, true, true, true, true, true, true, true, true, true, true, true, true, true, true, true, true, true, true, true, true, true, true, true, true, true, true, true, true, true, true, true, true, true, true, true, true, true, true, true, false, false, false] rfl rfl (one_of HT_.out (by kernel_rfl)) (by decide) (fun K hK => ?_)
                        refine goes_ Try.func35 (by kernel_rfl) rfl #[.agg #[.int .u64 a0_0, .int .u64 a0_1, .int .u64 a0_2, .int .u64 a0_3, .int .u64 a0_4, .slice A0_5 l0_5.length c0_5, .bool a0_6], .agg #[.int .u64 a1_0, .int .u64 a1_1, .int .u64 a1_2, .int .u64 a1_3, .int .u64 a1_4, .slice A1_5 l1_5.length c1_5, .bool a1_6]] (by rfl) rfl rfl (by (try simp only [List.map_toArray, List.map_cons, List.map_nil]); first | done | rfl | (simp only [List.length_drop, List.length_take]; rfl)) ?_
                        with_reducible refine (damsonref09_Same.calls kj4 a0_0 a0_1 a0_2 a0_3 a0_4 _ _ l0_5 a0_6 a1_0 a1_1 a1_2 a1_3 a1_4 _ _ l1_5 a1_6 t269 _ ?side1 ?side2 ?side3 ?side4 A32.out).mono ?_
                        (case side1 => repeat (first | exact (Kd.C_below HR0_5.out HB.out) | (with_reducible refine Kd.C_alloc ?_ _) | (with_reducible refine Kd.C_drewN ?_ _) | (with_reducible refine Kd.C_drew ?_)))
                        (case side2 => exact HC0_5.out)
                        (case side3 => repeat (first | exact (Kd.C_below HR1_5.out HB.out) | (with_reducible refine Kd.C_alloc ?_ _) | (with_reducible refine Kd.C_drewN ?_ _) | (with_reducible refine Kd.C_drew ?_)))
                        (case side4 => exact HC1_5.out)
                        rintro e w50 ⟨rfl, hb⟩
                        refine ⟨_, rfl, ?_⟩
                        have n0_ := Aside0.mk (blk_below (g := gb251) (blkN BK251) hb)
                        have n1_ := Aside0.mk (blk_below (g := gb252) (blkN BK252) hb)
                        have n2_ := Aside0.mk (below_step (belN HB) hb)
                        clear BK251
                        clear BK252
                        clear HB
                        have BK251 := n0_
                        have BK252 := n1_
                        have HB := n2_
                        clear n0_ n1_ n2_
                        (try clear hb)
                        (try clear hb2)
                        (try clear hk)
                        (try clear hi)
                        refine hK.out _ _ ⟨(blk_cell BK251.out 0).trans rfl, (blk_cell BK251.out 1).trans rfl, (blk_cell BK251.out 2).trans rfl, (blk_cell BK251.out 3).trans rfl, (blk_cell BK251.out 4).trans rfl, (blk_cell BK251.out 5).trans rfl, (blk_cell BK251.out 6).trans rfl, (blk_cell BK252.out 0).trans rfl, (blk_cell BK252.out 1).trans rfl, (blk_cell BK252.out 2).trans rfl, (blk_cell BK252.out 3).trans rfl, (blk_cell BK252.out 4).trans rfl, (blk_cell BK252.out 5).trans rfl, (blk_cell BK252.out 6).trans rfl⟩ (fun hHeld => ?_)
                        clear hK K
                        refine norm_ (a' := ?_) ?_ ?_
                        rotate_left
                        · show Act.put _ (some 100) _ = _
                          simp only [Act.put, List.setIfInBounds_toArray, List.set_cons_zero, List.set_cons_succ, i64_w, i32_w]
                          rfl
                        refine pureA_ 42 101 (bm 45 8796093022207) ?_
                        refine pureA_ 43 102 (bm 45 17592186044415) ?_
                        refine pureA_ 44 4 (bm 45 35184372088831) ?_
                        refine done_ (done_of HT_.out (by kernel_rfl)) ?_
                        try go_wp2
                        go_ret
                        exact ⟨by first | rfl | (simp [errW_none, errW_some] <;> rfl) | (simp [*, errW_none, errW_some] <;> rfl), by repeat (first | (with_reducible first | exact HB.out | apply below_alloc | apply pw_below_drewN | apply below_drew1 | refine below_set ?_ GE251.out | refine below_set ?_ GE252.out) | exact HB.out)⟩
                      · rw [if_neg c30] at H
                        have c30b0 : (t266 == t267) = false := beq_eq_false_iff_ne.mpr c30
                        have c30b1 : (t266 != t267) = true := bne_iff_ne.mpr c30
                        obtain rfl := Option.some.inj H
                        have hnb51 := NB251_252.out
                        have hnc51 := NB252_251.out
                        obtain ⟨hcz52_0, hcz52_1, hcz52_2, hcz52_3, hcz52_4, hcz52_5, hcz52_6, hfz52_0, hfz52_1, hfz52_2, hfz52_3, hfz52_4, hfz52_5, hfz52_6⟩ := cz7_ (w := wc) BK251.out
                        try go_wp2_with (first | ((with_reducible refine gate_callee (f := 28) rfl ?_); refine goesL_ (some 31) rfl rfl Try.func28 (by kernel_rfl) rfl #[.agg #[.int .u64 a0_0, .int .u64 a0_1, .int .u64 a0_2, .int .u64 a0_3, .int .u64 a0_4, .slice A0_5 l0_5.length c0_5, .bool a0_6]] rfl (by (try simp only [List.map_toArray, List.map_cons, List.map_nil]); first | done | rfl | (simp only [List.length_drop, List.length_take]; rfl)) ?_; (with_reducible refine (channel_Held.calls kj4 a0_0 a0_1 a0_2 a0_3 a0_4 _ _ l0_5 a0_6 t254 t255 _ ?side1 ?side2 A16.out).mono ?_); (case side1 => repeat (first | exact (Kd.C_below HR0_5.out HB.out) | (with_reducible refine Kd.C_alloc ?_ _) | (with_reducible refine Kd.C_drewN ?_ _) | (with_reducible refine Kd.C_drew ?_))); (case side2 => exact HC0_5.out); rintro e w53 ⟨rfl, hb⟩; refine ⟨_, rfl, ?_⟩; have n0_ := Aside0.mk (blk_below (g := gb251) (blkN BK251) hb); have n1_ := Aside0.mk (blk_below (g := gb252) (blkN BK252) hb); have n2_ := Aside0.mk (below_step (belN HB) hb); clear BK251; clear BK252; clear HB; have BK251 := n0_; have BK252 := n1_; have HB := n2_; clear n0_ n1_ n2_; (try clear hb); (try clear hb2); (try clear hk); (try clear hi); obtain ⟨hcz54_0, hcz54_1, hcz54_2, hcz54_3, hcz54_4, hcz54_5, hcz54_6, hfz54_0, hfz54_1, hfz54_2, hfz54_3, hfz54_4, hfz54_5, hfz54_6⟩ := cz7_ (w := w53) BK251.out) | ((with_reducible refine gate_callee (f := 29) rfl ?_); refine goesL_ (some 36) rfl rfl Try.func29 (by kernel_rfl) rfl #[.agg #[.int .u64 a0_0, .int .u64 a0_1, .int .u64 a0_2, .int .u64 a0_3, .int .u64 a0_4, .slice A0_5 l0_5.length c0_5, .bool a0_6]] rfl (by (try simp only [List.map_toArray, List.map_cons, List.map_nil]); first | done | rfl | (simp only [List.length_drop, List.length_take]; rfl)) ?_; (with_reducible refine (damsonref09_Held.calls kj4 a0_0 a0_1 a0_2 a0_3 a0_4 _ _ l0_5 a0_6 t256 t257 _ ?side1 ?side2 A17.out).mono ?_); (case side1 => repeat (first | exact (Kd.C_below HR0_5.out HB.out) | (with_reducible refine Kd.C_alloc ?_ _) | (with_reducible refine Kd.C_drewN ?_ _) | (with_reducible refine Kd.C_drew ?_))); (case side2 => exact HC0_5.out); rintro e w55 ⟨rfl, hb⟩; refine ⟨_, rfl, ?_⟩; have n0_ := Aside0.mk (blk_below (g := gb251) (blkN BK251) hb); have n1_ := Aside0.mk (blk_below (g := gb252) (blkN BK252) hb); have n2_ := Aside0.mk (below_step (belN HB) hb); clear BK251; clear BK252; clear HB; have BK251 := n0_; have BK252 := n1_; have HB := n2_; clear n0_ n1_ n2_; (try clear hb); (try clear hb2); (try clear hk); (try clear hi); obtain ⟨hcz56_0, hcz56_1, hcz56_2, hcz56_3, hcz56_4, hcz56_5, hcz56_6, hfz56_0, hfz56_1, hfz56_2, hfz56_3, hfz56_4, hfz56_5, hfz56_6⟩ := cz7_ (w := w55) BK251.out) | ((with_reducible refine gate_callee (f := 30) rfl ?_); refine goesL_ (some 41) rfl rfl Try.func30 (by kernel_rfl) rfl #[.agg #[.int .u64 a0_0, .int .u64 a0_1, .int .u64 a0_2, .int .u64 a0_3, .int .u64 a0_4, .slice A0_5 l0_5.length c0_5, .bool a0_6]] rfl (by (try simp only [List.map_toArray, List.map_cons, List.map_nil]); first | done | rfl | (simp only [List.length_drop, List.length_take]; rfl)) ?_; (with_reducible refine (channel_All.calls kj4 a0_0 a0_1 a0_2 a0_3 a0_4 _ _ l0_5 a0_6 t258 t259 _ ?side1 ?side2 A18.out).mono ?_); (case side1 => repeat (first | exact (Kd.C_below HR0_5.out HB.out) | (with_reducible refine Kd.C_alloc ?_ _) | (with_reducible refine Kd.C_drewN ?_ _) | (with_reducible refine Kd.C_drew ?_))); (case side2 => exact HC0_5.out); rintro e w57 ⟨rfl, hb⟩; refine ⟨_, rfl, ?_⟩; have n0_ := Aside0.mk (blk_below (g := gb251) (blkN BK251) hb); have n1_ := Aside0.mk (blk_below (g := gb252) (blkN BK252) hb); have n2_ := Aside0.mk (below_step (belN HB) hb); clear BK251; clear BK252; clear HB; have BK251 := n0_; have BK252 := n1_; have HB := n2_; clear n0_ n1_ n2_; (try clear hb); (try clear hb2); (try clear hk); (try clear hi); obtain ⟨hcz58_0, hcz58_1, hcz58_2, hcz58_3, hcz58_4, hcz58_5, hcz58_6, hfz58_0, hfz58_1, hfz58_2, hfz58_3, hfz58_4, hfz58_5, hfz58_6⟩ := cz7_ (w := w57) BK251.out) | ((with_reducible refine gate_callee (f := 31) rfl ?_); refine goesL_ (some 46) rfl rfl Try.func31 (by kernel_rfl) rfl #[.agg #[.int .u64 a0_0, .int .u64 a0_1, .int .u64 a0_2, .int .u64 a0_3, .int .u64 a0_4, .slice A0_5 l0_5.length c0_5, .bool a0_6]] rfl (by (try simp only [List.map_toArray, List.map_cons, List.map_nil]); first | done | rfl | (simp only [List.length_drop, List.length_take]; rfl)) ?_; (with_reducible refine (damsonref09_All.calls kj4 a0_0 a0_1 a0_2 a0_3 a0_4 _ _ l0_5 a0_6 t260 t261 _ ?side1 ?side2 A19.out).mono ?_); (case side1 => repeat (first | exact (Kd.C_below HR0_5.out HB.out) | (with_reducible refine Kd.C_alloc ?_ _) | (with_reducible refine Kd.C_drewN ?_ _) | (with_reducible refine Kd.C_drew ?_))); (case side2 => exact HC0_5.out); rintro e w59 ⟨rfl, hb⟩; refine ⟨_, rfl, ?_⟩; have n0_ := Aside0.mk (blk_below (g := gb251) (blkN BK251) hb); have n1_ := Aside0.mk (blk_below (g := gb252) (blkN BK252) hb); have n2_ := Aside0.mk (below_step (belN HB) hb); clear BK251; clear BK252; clear HB; have BK251 := n0_; have BK252 := n1_; have HB := n2_; clear n0_ n1_ n2_; (try clear hb); (try clear hb2); (try clear hk); (try clear hi); obtain ⟨hcz60_0, hcz60_1, hcz60_2, hcz60_3, hcz60_4, hcz60_5, hcz60_6, hfz60_0, hfz60_1, hfz60_2, hfz60_3, hfz60_4, hfz60_5, hfz60_6⟩ := cz7_ (w := w59) BK251.out) | ((with_reducible refine gate_callee (f := 22) rfl ?_); refine goesL_ (some 51) rfl rfl Try.func22 (by kernel_rfl) rfl #[.agg #[.int .u64 a0_0, .int .u64 a0_1, .int .u64 a0_2, .int .u64 a0_3, .int .u64 a0_4, .slice A0_5 l0_5.length c0_5, .bool a0_6]] rfl (by (try simp only [List.map_toArray, List.map_cons, List.map_nil]); first | done | rfl | (simp only [List.length_drop, List.length_take]; rfl)) ?_; (with_reducible refine (channel_Room.calls kj4 a0_0 a0_1 a0_2 a0_3 a0_4 _ _ l0_5 a0_6 t262 t263 _ ?side1 ?side2 A20.out).mono ?_); (case side1 => repeat (first | exact (Kd.C_below HR0_5.out HB.out) | (with_reducible refine Kd.C_alloc ?_ _) | (with_reducible refine Kd.C_drewN ?_ _) | (with_reducible refine Kd.C_drew ?_))); (case side2 => exact HC0_5.out); rintro e w61 ⟨rfl, hb⟩; refine ⟨_, rfl, ?_⟩; have n0_ := Aside0.mk (blk_below (g := gb251) (blkN BK251) hb); have n1_ := Aside0.mk (blk_below (g := gb252) (blkN BK252) hb); have n2_ := Aside0.mk (below_step (belN HB) hb); clear BK251; clear BK252; clear HB; have BK251 := n0_; have BK252 := n1_; have HB := n2_; clear n0_ n1_ n2_; (try clear hb); (try clear hb2); (try clear hk); (try clear hi); obtain ⟨hcz62_0, hcz62_1, hcz62_2, hcz62_3, hcz62_4, hcz62_5, hcz62_6, hfz62_0, hfz62_1, hfz62_2, hfz62_3, hfz62_4, hfz62_5, hfz62_6⟩ := cz7_ (w := w61) BK251.out) | ((with_reducible refine gate_callee (f := 32) rfl ?_); refine goesL_ (some 56) rfl rfl Try.func32 (by kernel_rfl) rfl #[.agg #[.int .u64 a0_0, .int .u64 a0_1, .int .u64 a0_2, .int .u64 a0_3, .int .u64 a0_4, .slice A0_5 l0_5.length c0_5, .bool a0_6]] rfl (by (try simp only [List.map_toArray, List.map_cons, List.map_nil]); first | done | rfl | (simp only [List.length_drop, List.length_take]; rfl)) ?_; (with_reducible refine (damsonref09_Room.calls kj4 a0_0 a0_1 a0_2 a0_3 a0_4 _ _ l0_5 a0_6 t264 t265 _ ?side1 ?side2 A21.out).mono ?_); (case side1 => repeat (first | exact (Kd.C_below HR0_5.out HB.out) | (with_reducible refine Kd.C_alloc ?_ _) | (with_reducible refine Kd.C_drewN ?_ _) | (with_reducible refine Kd.C_drew ?_))); (case side2 => exact HC0_5.out); rintro e w63 ⟨rfl, hb⟩; refine ⟨_, rfl, ?_⟩; have n0_ := Aside0.mk (blk_below (g := gb251) (blkN BK251) hb); have n1_ := Aside0.mk (blk_below (g := gb252) (blkN BK252) hb); have n2_ := Aside0.mk (below_step (belN HB) hb); clear BK251; clear BK252; clear HB; have BK251 := n0_; have BK252 := n1_; have HB := n2_; clear n0_ n1_ n2_; (try clear hb); (try clear hb2); (try clear hk); (try clear hi)))
                        have n0_ := Aside0.mk (blk_drew BK251.out)
                        have n1_ := Aside0.mk (blk_drew BK252.out)
                        have n2_ := Aside0.mk (below_drew1 HB.out)
                        clear BK251
                        clear BK252
                        clear HB
                        have BK251 := n0_
                        have BK252 := n1_
                        have HB := n2_
                        clear n0_ n1_ n2_
                        refine start_ (n := 45) (S := fun w' => w'.cell? ⟨gb251, 0, none⟩ = some (.int .u64 a0_0) ∧ w'.cell? ⟨gb251, 1, none⟩ = some (.int .u64 a0_1) ∧ w'.cell? ⟨gb251, 2, none⟩ = some (.int .u64 a0_2) ∧ w'.cell? ⟨gb251, 3, none⟩ = some (.int .u64 a0_3) ∧ w'.cell? ⟨gb251, 4, none⟩ = some (.int .u64 a0_4) ∧ w'.cell? ⟨gb251, 5, none⟩ = some (.slice A0_5 l0_5.length c0_5) ∧ w'.cell? ⟨gb251, 6, none⟩ = some (.bool a0_6)) (ds := []) #[false, false, false, false, false, false, false, false, false, false, false, false, false, false, false, false, false, false, false, false, false, false, false, false, false, false, false, false, false, false, false, false, false, false, false, false, false, false, false, false, false, false, false, false, false] (by kernel_rfl) rfl rfl ⟨(blk_cell BK251.out 0).trans rfl, (blk_cell BK251.out 1).trans rfl, (blk_cell BK251.out 2).trans rfl, (blk_cell BK251.out 3).trans rfl, (blk_cell BK251.out 4).trans rfl, (blk_cell BK251.out 5).trans rfl, (blk_cell BK251.out 6).trans rfl⟩ (fun hHeld => ?_); refine with_tabW damsonlaw09_ChannelTells.tab11 damsonlaw09_ChannelTells.bits11 (fun HT_ HW_ => ?_)
                        generalize w63.drew = w64 at BK251 BK252 HB hHeld ⊢
                        refine pureA_ 0 59 (bm 45 1) ?_
                        refine pureA_ 1 60 (bm 45 3) ?_
                        refine pureA_ 2 61 (bm 45 7) ?_
                        refine pureA_ 3 62 (bm 45 15) ?_
                        refine pureA_ 4 63 (bm 45 31) ?_
                        refine pureA_ 5 64 (bm 45 63) ?_
                        refine pureA_ 6 65 (bm 45 127) ?_
                        refine pureA_ 7 66 (bm 45 255) ?_
                        refine pureA_ 8 67 (bm 45 511) ?_
                        refine pureA_ 9 68 (bm 45 1023) ?_
                        refine pureA_ 10 69 (bm 45 2047) ?_
                        refine pureA_ 11 70 (bm 45 4095) ?_
                        refine pureA_ 12 71 (bm 45 8191) ?_
                        refine pureA_ 13 72 (bm 45 16383) ?_
                        refine pureA_ 14 73 (bm 45 32767) ?_
                        refine pureA_ 15 74 (bm 45 65535) ?_
                        refine pureA_ 16 75 (bm 45 131071) ?_
                        refine pureA_ 17 76 (bm 45 262143) ?_
                        refine pureA_ 18 77 (bm 45 524287) ?_
                        refine pureA_ 19 78 (bm 45 1048575) ?_
                        refine pureA_ 20 79 (bm 45 2097151) ?_
                        refine pureA_ 21 80 (bm 45 4194303) ?_
                        refine pureA_ 22 81 (bm 45 8388607) ?_
                        refine pureA_ 23 82 (bm 45 16777215) ?_
                        refine pureA_ 24 83 (bm 45 33554431) ?_
                        refine pureA_ 25 84 (bm 45 67108863) ?_
                        refine pureA_ 26 85 (bm 45 134217727) ?_
                        refine pureA_ 27 86 (bm 45 268435455) ?_
                        refine pureA_ 28 87 (bm 45 536870911) ?_
                        refine take_ (i := 29) (N := some 88) (v := ?_) (a' := ?_) #[true, true, true, true, true, true, true, true, true, true, true, true, true, true, true, true, true, true, true, true, true, true, true, true, true, true, true, true, true, true, false, false, false, false, false, false, false, false, false, false, false, false, false, false, false] rfl rfl (take_ofW HT_.out HW_.out (by kernel_rfl)) (fun _ _ _ h => h) (Or.inl ⟨by rfl, ?_⟩) hHeld ?_ ?_
                        rotate_left
                        · rintro w' ⟨s0, s1, s2, s3, s4, s5, s6⟩
                          go_simp
                          with_reducible rfl
                        rotate_left
                        · simp only [Act.put, List.setIfInBounds_toArray, List.set_cons_zero, List.set_cons_succ, i64_w, i32_w]
                          rfl
                        refine take_ (i := 31) (N := some 90) (v := ?_) (a' := ?_) #[true, true, true, true, true, true, true, true, true, true, true, true, true, true, true, true, true, true, true, true, true, true, true, true, true, true, true, true, true, true, false, true, false, false, false, false, false, false, false, false, false, false, false, false, false] rfl rfl (take_ofW HT_.out HW_.out (by kernel_rfl)) (fun _ _ _ h => h) (Or.inl ⟨by rfl, ?_⟩) hHeld ?_ ?_
                        rotate_left
                        · rintro w' ⟨s0, s1, s2, s3, s4, s5, s6⟩
                          go_simp
                          with_reducible rfl
                        rotate_left
                        · simp only [Act.put, List.setIfInBounds_toArray, List.set_cons_zero, List.set_cons_succ, i64_w, i32_w]
                          rfl
                        refine one_ (i := 30) (N := some 89) #[true, true, true, true, true, true, true, true, true, true, true, true, true, true, true, true, true, true, true, true, true, true, true, true, true, true, true, true, true, true, true, true, false, false, false, false, false, false, false, false, false, false, false, false, false] rfl rfl (one_of HT_.out (by kernel_rfl)) (by decide) (fun K hK => ?_)
                        refine goes_ Try.func33 (by kernel_rfl) rfl #[.agg #[.int .u64 a0_0, .int .u64 a0_1, .int .u64 a0_2, .int .u64 a0_3, .int .u64 a0_4, .slice A0_5 l0_5.length c0_5, .bool a0_6]] (by rfl) rfl rfl (by (try simp only [List.map_toArray, List.map_cons, List.map_nil]); first | done | rfl | (simp only [List.length_drop, List.length_take]; rfl)) ?_
                        with_reducible refine (channel_Check.calls kj4 a0_0 a0_1 a0_2 a0_3 a0_4 _ _ l0_5 a0_6 t266 _ ?side1 ?side2 A28.out).mono ?_
                        (case side1 => repeat (first | exact (Kd.C_below HR0_5.out HB.out) | (with_reducible refine Kd.C_alloc ?_ _) | (with_reducible refine Kd.C_drewN ?_ _) | (with_reducible refine Kd.C_drew ?_)))
                        (case side2 => exact HC0_5.out)
                        rintro e w65 ⟨rfl, hb⟩
                        refine ⟨_, rfl, ?_⟩
                        have n0_ := Aside0.mk (blk_below (g := gb251) (blkN BK251) hb)
                        have n1_ := Aside0.mk (blk_below (g := gb252) (blkN BK252) hb)
                        have n2_ := Aside0.mk (below_step (belN HB) hb)
                        clear BK251
                        clear BK252
                        clear HB
                        have BK251 := n0_
                        have BK252 := n1_
                        have HB := n2_
                        clear n0_ n1_ n2_
                        (try clear hb)
                        (try clear hb2)
                        (try clear hk)
                        (try clear hi)
                        refine hK.out _ _ ⟨(blk_cell BK251.out 0).trans rfl, (blk_cell BK251.out 1).trans rfl, (blk_cell BK251.out 2).trans rfl, (blk_cell BK251.out 3).trans rfl, (blk_cell BK251.out 4).trans rfl, (blk_cell BK251.out 5).trans rfl, (blk_cell BK251.out 6).trans rfl⟩ (fun hHeld => ?_)
                        clear hK K
                        refine norm_ (a' := ?_) ?_ ?_
                        rotate_left
                        · show Act.put _ (some 89) _ = _
                          simp only [Act.put, List.setIfInBounds_toArray, List.set_cons_zero, List.set_cons_succ, i64_w, i32_w]
                          rfl
                        refine one_ (i := 32) (N := some 91) #[true, true, true, true, true, true, true, true, true, true, true, true, true, true, true, true, true, true, true, true, true, true, true, true, true, true, true, true, true, true, true, true, true, false, false, false, false, false, false, false, false, false, false, false, false] rfl rfl (one_of HT_.out (by kernel_rfl)) (by decide) (fun K hK => ?_)
                        refine goes_ Try.func34 (by kernel_rfl) rfl #[.agg #[.int .u64 a0_0, .int .u64 a0_1, .int .u64 a0_2, .int .u64 a0_3, .int .u64 a0_4, .slice A0_5 l0_5.length c0_5, .bool a0_6]] (by rfl) rfl rfl (by (try simp only [List.map_toArray, List.map_cons, List.map_nil]); first | done | rfl | (simp only [List.length_drop, List.length_take]; rfl)) ?_
                        with_reducible refine (damsonref09_Check.calls kj4 a0_0 a0_1 a0_2 a0_3 a0_4 _ _ l0_5 a0_6 t267 _ ?side1 ?side2 A29.out).mono ?_
                        (case side1 => repeat (first | exact (Kd.C_below HR0_5.out HB.out) | (with_reducible refine Kd.C_alloc ?_ _) | (with_reducible refine Kd.C_drewN ?_ _) | (with_reducible refine Kd.C_drew ?_)))
                        (case side2 => exact HC0_5.out)
                        rintro e w66 ⟨rfl, hb⟩
                        refine ⟨_, rfl, ?_⟩
                        have n0_ := Aside0.mk (blk_below (g := gb251) (blkN BK251) hb)
                        have n1_ := Aside0.mk (blk_below (g := gb252) (blkN BK252) hb)
                        have n2_ := Aside0.mk (below_step (belN HB) hb)
                        clear BK251
                        clear BK252
                        clear HB
                        have BK251 := n0_
                        have BK252 := n1_
                        have HB := n2_
                        clear n0_ n1_ n2_
                        (try clear hb)
                        (try clear hb2)
                        (try clear hk)
                        (try clear hi)
                        refine hK.out _ _ ⟨(blk_cell BK251.out 0).trans rfl, (blk_cell BK251.out 1).trans rfl, (blk_cell BK251.out 2).trans rfl, (blk_cell BK251.out 3).trans rfl, (blk_cell BK251.out 4).trans rfl, (blk_cell BK251.out 5).trans rfl, (blk_cell BK251.out 6).trans rfl⟩ (fun hHeld => ?_)
                        clear hK K
                        refine norm_ (a' := ?_) ?_ ?_
                        rotate_left
                        · show Act.put _ (some 91) _ = _
                          simp only [Act.put, List.setIfInBounds_toArray, List.set_cons_zero, List.set_cons_succ, i64_w, i32_w]
                          rfl
                        refine pureA_ 33 92 (bm 45 17179869183) ?_
                        refine pureA_ 34 93 (bm 45 34359738367) ?_
                        refine pureA_ 35 94 (bm 45 68719476735) ?_
                        refine pureU_ 36 95 (bm 45 137438953471) ?_
                        refine pureU_ 37 96 (bm 45 274877906943) ?_
                        refine pureU_ 38 97 (bm 45 549755813887) ?_
                        refine pureU_ 39 98 (bm 45 1099511627775) ?_
                        refine pureU_ 40 99 (bm 45 2199023255551) ?_
                        refine pureU_ 41 100 (bm 45 4398046511103) ?_
                        refine pureU_ 42 101 (bm 45 8796093022207) ?_
                        refine pureA_ 43 102 (bm 45 17592186044415) ?_
                        refine pureA_ 44 4 (bm 45 35184372088831) ?_
                        refine done_ (done_of HT_.out (by kernel_rfl)) ?_
                        try go_wp2
                        go_ret
                        exact ⟨by first | rfl | (simp [errW_none, errW_some] <;> rfl) | (simp [*, errW_none, errW_some] <;> rfl), by repeat (first | (with_reducible first | exact HB.out | apply below_alloc | apply pw_below_drewN | apply below_drew1 | refine below_set ?_ GE251.out | refine below_set ?_ GE252.out) | exact HB.out)⟩
                    · rw [if_neg c27] at H
                      have c27b0 : (t263 == t265) = false := beq_eq_false_iff_ne.mpr c27
                      have c27b1 : (t263 != t265) = true := bne_iff_ne.mpr c27
                      obtain rfl := Option.some.inj H
                      have hnb67 := NB251_252.out
                      have hnc67 := NB252_251.out
                      obtain ⟨hcz68_0, hcz68_1, hcz68_2, hcz68_3, hcz68_4, hcz68_5, hcz68_6, hfz68_0, hfz68_1, hfz68_2, hfz68_3, hfz68_4, hfz68_5, hfz68_6⟩ := cz7_ (w := wc) BK251.out
                      try go_wp2_with (first | ((with_reducible refine gate_callee (f := 28) rfl ?_); refine goesL_ (some 31) rfl rfl Try.func28 (by kernel_rfl) rfl #[.agg #[.int .u64 a0_0, .int .u64 a0_1, .int .u64 a0_2, .int .u64 a0_3, .int .u64 a0_4, .slice A0_5 l0_5.length c0_5, .bool a0_6]] rfl (by (try simp only [List.map_toArray, List.map_cons, List.map_nil]); first | done | rfl | (simp only [List.length_drop, List.length_take]; rfl)) ?_; (with_reducible refine (channel_Held.calls kj4 a0_0 a0_1 a0_2 a0_3 a0_4 _ _ l0_5 a0_6 t254 t255 _ ?side1 ?side2 A16.out).mono ?_); (case side1 => repeat (first | exact (Kd.C_below HR0_5.out HB.out) | (with_reducible refine Kd.C_alloc ?_ _) | (with_reducible refine Kd.C_drewN ?_ _) | (with_reducible refine Kd.C_drew ?_))); (case side2 => exact HC0_5.out); rintro e w69 ⟨rfl, hb⟩; refine ⟨_, rfl, ?_⟩; have n0_ := Aside0.mk (blk_below (g := gb251) (blkN BK251) hb); have n1_ := Aside0.mk (blk_below (g := gb252) (blkN BK252) hb); have n2_ := Aside0.mk (below_step (belN HB) hb); clear BK251; clear BK252; clear HB; have BK251 := n0_; have BK252 := n1_; have HB := n2_; clear n0_ n1_ n2_; (try clear hb); (try clear hb2); (try clear hk); (try clear hi); obtain ⟨hcz70_0, hcz70_1, hcz70_2, hcz70_3, hcz70_4, hcz70_5, hcz70_6, hfz70_0, hfz70_1, hfz70_2, hfz70_3, hfz70_4, hfz70_5, hfz70_6⟩ := cz7_ (w := w69) BK251.out) | ((with_reducible refine gate_callee (f := 29) rfl ?_); refine goesL_ (some 36) rfl rfl Try.func29 (by kernel_rfl) rfl #[.agg #[.int .u64 a0_0, .int .u64 a0_1, .int .u64 a0_2, .int .u64 a0_3, .int .u64 a0_4, .slice A0_5 l0_5.length c0_5, .bool a0_6]] rfl (by (try simp only [List.map_toArray, List.map_cons, List.map_nil]); first | done | rfl | (simp only [List.length_drop, List.length_take]; rfl)) ?_; (with_reducible refine (damsonref09_Held.calls kj4 a0_0 a0_1 a0_2 a0_3 a0_4 _ _ l0_5 a0_6 t256 t257 _ ?side1 ?side2 A17.out).mono ?_); (case side1 => repeat (first | exact (Kd.C_below HR0_5.out HB.out) | (with_reducible refine Kd.C_alloc ?_ _) | (with_reducible refine Kd.C_drewN ?_ _) | (with_reducible refine Kd.C_drew ?_))); (case side2 => exact HC0_5.out); rintro e w71 ⟨rfl, hb⟩; refine ⟨_, rfl, ?_⟩; have n0_ := Aside0.mk (blk_below (g := gb251) (blkN BK251) hb); have n1_ := Aside0.mk (blk_below (g := gb252) (blkN BK252) hb); have n2_ := Aside0.mk (below_step (belN HB) hb); clear BK251; clear BK252; clear HB; have BK251 := n0_; have BK252 := n1_; have HB := n2_; clear n0_ n1_ n2_; (try clear hb); (try clear hb2); (try clear hk); (try clear hi); obtain ⟨hcz72_0, hcz72_1, hcz72_2, hcz72_3, hcz72_4, hcz72_5, hcz72_6, hfz72_0, hfz72_1, hfz72_2, hfz72_3, hfz72_4, hfz72_5, hfz72_6⟩ := cz7_ (w := w71) BK251.out) | ((with_reducible refine gate_callee (f := 30) rfl ?_); refine goesL_ (some 41) rfl rfl Try.func30 (by kernel_rfl) rfl #[.agg #[.int .u64 a0_0, .int .u64 a0_1, .int .u64 a0_2, .int .u64 a0_3, .int .u64 a0_4, .slice A0_5 l0_5.length c0_5, .bool a0_6]] rfl (by (try simp only [List.map_toArray, List.map_cons, List.map_nil]); first | done | rfl | (simp only [List.length_drop, List.length_take]; rfl)) ?_; (with_reducible refine (channel_All.calls kj4 a0_0 a0_1 a0_2 a0_3 a0_4 _ _ l0_5 a0_6 t258 t259 _ ?side1 ?side2 A18.out).mono ?_); (case side1 => repeat (first | exact (Kd.C_below HR0_5.out HB.out) | (with_reducible refine Kd.C_alloc ?_ _) | (with_reducible refine Kd.C_drewN ?_ _) | (with_reducible refine Kd.C_drew ?_))); (case side2 => exact HC0_5.out); rintro e w73 ⟨rfl, hb⟩; refine ⟨_, rfl, ?_⟩; have n0_ := Aside0.mk (blk_below (g := gb251) (blkN BK251) hb); have n1_ := Aside0.mk (blk_below (g := gb252) (blkN BK252) hb); have n2_ := Aside0.mk (below_step (belN HB) hb); clear BK251; clear BK252; clear HB; have BK251 := n0_; have BK252 := n1_; have HB := n2_; clear n0_ n1_ n2_; (try clear hb); (try clear hb2); (try clear hk); (try clear hi); obtain ⟨hcz74_0, hcz74_1, hcz74_2, hcz74_3, hcz74_4, hcz74_5, hcz74_6, hfz74_0, hfz74_1, hfz74_2, hfz74_3, hfz74_4, hfz74_5, hfz74_6⟩ := cz7_ (w := w73) BK251.out) | ((with_reducible refine gate_callee (f := 31) rfl ?_); refine goesL_ (some 46) rfl rfl Try.func31 (by kernel_rfl) rfl #[.agg #[.int .u64 a0_0, .int .u64 a0_1, .int .u64 a0_2, .int .u64 a0_3, .int .u64 a0_4, .slice A0_5 l0_5.length c0_5, .bool a0_6]] rfl (by (try simp only [List.map_toArray, List.map_cons, List.map_nil]); first | done | rfl | (simp only [List.length_drop, List.length_take]; rfl)) ?_; (with_reducible refine (damsonref09_All.calls kj4 a0_0 a0_1 a0_2 a0_3 a0_4 _ _ l0_5 a0_6 t260 t261 _ ?side1 ?side2 A19.out).mono ?_); (case side1 => repeat (first | exact (Kd.C_below HR0_5.out HB.out) | (with_reducible refine Kd.C_alloc ?_ _) | (with_reducible refine Kd.C_drewN ?_ _) | (with_reducible refine Kd.C_drew ?_))); (case side2 => exact HC0_5.out); rintro e w75 ⟨rfl, hb⟩; refine ⟨_, rfl, ?_⟩; have n0_ := Aside0.mk (blk_below (g := gb251) (blkN BK251) hb); have n1_ := Aside0.mk (blk_below (g := gb252) (blkN BK252) hb); have n2_ := Aside0.mk (below_step (belN HB) hb); clear BK251; clear BK252; clear HB; have BK251 := n0_; have BK252 := n1_; have HB := n2_; clear n0_ n1_ n2_; (try clear hb); (try clear hb2); (try clear hk); (try clear hi); obtain ⟨hcz76_0, hcz76_1, hcz76_2, hcz76_3, hcz76_4, hcz76_5, hcz76_6, hfz76_0, hfz76_1, hfz76_2, hfz76_3, hfz76_4, hfz76_5, hfz76_6⟩ := cz7_ (w := w75) BK251.out) | ((with_reducible refine gate_callee (f := 22) rfl ?_); refine goesL_ (some 51) rfl rfl Try.func22 (by kernel_rfl) rfl #[.agg #[.int .u64 a0_0, .int .u64 a0_1, .int .u64 a0_2, .int .u64 a0_3, .int .u64 a0_4, .slice A0_5 l0_5.length c0_5, .bool a0_6]] rfl (by (try simp only [List.map_toArray, List.map_cons, List.map_nil]); first | done | rfl | (simp only [List.length_drop, List.length_take]; rfl)) ?_; (with_reducible refine (channel_Room.calls kj4 a0_0 a0_1 a0_2 a0_3 a0_4 _ _ l0_5 a0_6 t262 t263 _ ?side1 ?side2 A20.out).mono ?_); (case side1 => repeat (first | exact (Kd.C_below HR0_5.out HB.out) | (with_reducible refine Kd.C_alloc ?_ _) | (with_reducible refine Kd.C_drewN ?_ _) | (with_reducible refine Kd.C_drew ?_))); (case side2 => exact HC0_5.out); rintro e w77 ⟨rfl, hb⟩; refine ⟨_, rfl, ?_⟩; have n0_ := Aside0.mk (blk_below (g := gb251) (blkN BK251) hb); have n1_ := Aside0.mk (blk_below (g := gb252) (blkN BK252) hb); have n2_ := Aside0.mk (below_step (belN HB) hb); clear BK251; clear BK252; clear HB; have BK251 := n0_; have BK252 := n1_; have HB := n2_; clear n0_ n1_ n2_; (try clear hb); (try clear hb2); (try clear hk); (try clear hi); obtain ⟨hcz78_0, hcz78_1, hcz78_2, hcz78_3, hcz78_4, hcz78_5, hcz78_6, hfz78_0, hfz78_1, hfz78_2, hfz78_3, hfz78_4, hfz78_5, hfz78_6⟩ := cz7_ (w := w77) BK251.out) | ((with_reducible refine gate_callee (f := 32) rfl ?_); refine goesL_ (some 56) rfl rfl Try.func32 (by kernel_rfl) rfl #[.agg #[.int .u64 a0_0, .int .u64 a0_1, .int .u64 a0_2, .int .u64 a0_3, .int .u64 a0_4, .slice A0_5 l0_5.length c0_5, .bool a0_6]] rfl (by (try simp only [List.map_toArray, List.map_cons, List.map_nil]); first | done | rfl | (simp only [List.length_drop, List.length_take]; rfl)) ?_; (with_reducible refine (damsonref09_Room.calls kj4 a0_0 a0_1 a0_2 a0_3 a0_4 _ _ l0_5 a0_6 t264 t265 _ ?side1 ?side2 A21.out).mono ?_); (case side1 => repeat (first | exact (Kd.C_below HR0_5.out HB.out) | (with_reducible refine Kd.C_alloc ?_ _) | (with_reducible refine Kd.C_drewN ?_ _) | (with_reducible refine Kd.C_drew ?_))); (case side2 => exact HC0_5.out); rintro e w79 ⟨rfl, hb⟩; refine ⟨_, rfl, ?_⟩; have n0_ := Aside0.mk (blk_below (g := gb251) (blkN BK251) hb); have n1_ := Aside0.mk (blk_below (g := gb252) (blkN BK252) hb); have n2_ := Aside0.mk (below_step (belN HB) hb); clear BK251; clear BK252; clear HB; have BK251 := n0_; have BK252 := n1_; have HB := n2_; clear n0_ n1_ n2_; (try clear hb); (try clear hb2); (try clear hk); (try clear hi)))
                      have n0_ := Aside0.mk (blk_drew BK251.out)
                      have n1_ := Aside0.mk (blk_drew BK252.out)
                      have n2_ := Aside0.mk (below_drew1 HB.out)
                      clear BK251
                      clear BK252
                      clear HB
                      have BK251 := n0_
                      have BK252 := n1_
                      have HB := n2_
                      clear n0_ n1_ n2_
                      refine start_ (n := 45) (S := fun w' => True) (ds := []) #[false, false, false, false, false, false, false, false, false, false, false, false, false, false, false, false, false, false, false, false, false, false, false, false, false, false, false, false, false, false, false, false, false, false, false, false, false, false, false, false, false, false, false, false, false] (by kernel_rfl) rfl rfl trivial (fun hHeld => ?_); refine with_tabW damsonlaw09_ChannelTells.tab11 damsonlaw09_ChannelTells.bits11 (fun HT_ HW_ => ?_)
                      generalize w79.drew = w80 at BK251 BK252 HB hHeld ⊢
                      refine pureA_ 0 59 (bm 45 1) ?_
                      refine pureA_ 1 60 (bm 45 3) ?_
                      refine pureA_ 2 61 (bm 45 7) ?_
                      refine pureA_ 3 62 (bm 45 15) ?_
                      refine pureA_ 4 63 (bm 45 31) ?_
                      refine pureA_ 5 64 (bm 45 63) ?_
                      refine pureA_ 6 65 (bm 45 127) ?_
                      refine pureA_ 7 66 (bm 45 255) ?_
                      refine pureA_ 8 67 (bm 45 511) ?_
                      refine pureA_ 9 68 (bm 45 1023) ?_
                      refine pureA_ 10 69 (bm 45 2047) ?_
                      refine pureA_ 11 70 (bm 45 4095) ?_
                      refine pureA_ 12 71 (bm 45 8191) ?_
                      refine pureA_ 13 72 (bm 45 16383) ?_
                      refine pureA_ 14 73 (bm 45 32767) ?_
                      refine pureA_ 15 74 (bm 45 65535) ?_
                      refine pureA_ 16 75 (bm 45 131071) ?_
                      refine pureA_ 17 76 (bm 45 262143) ?_
                      refine pureA_ 18 77 (bm 45 524287) ?_
                      refine pureA_ 19 78 (bm 45 1048575) ?_
                      refine pureA_ 20 79 (bm 45 2097151) ?_
                      refine pureA_ 21 80 (bm 45 4194303) ?_
                      refine pureA_ 22 81 (bm 45 8388607) ?_
                      refine pureA_ 23 82 (bm 45 16777215) ?_
                      refine pureA_ 24 83 (bm 45 33554431) ?_
                      refine pureA_ 25 84 (bm 45 67108863) ?_
                      refine pureA_ 26 85 (bm 45 134217727) ?_
                      refine pureA_ 27 86 (bm 45 268435455) ?_
                      refine pureA_ 28 87 (bm 45 536870911) ?_
                      refine pureU_ 29 88 (bm 45 1073741823) ?_
                      refine pureU_ 30 89 (bm 45 2147483647) ?_
                      refine pureU_ 31 90 (bm 45 4294967295) ?_
                      refine pureU_ 32 91 (bm 45 8589934591) ?_
                      refine pureU_ 33 92 (bm 45 17179869183) ?_
                      refine pureA_ 34 93 (bm 45 34359738367) ?_
                      refine pureA_ 35 94 (bm 45 68719476735) ?_
                      refine pureU_ 36 95 (bm 45 137438953471) ?_
                      refine pureU_ 37 96 (bm 45 274877906943) ?_
                      refine pureU_ 38 97 (bm 45 549755813887) ?_
                      refine pureU_ 39 98 (bm 45 1099511627775) ?_
                      refine pureU_ 40 99 (bm 45 2199023255551) ?_
                      refine pureU_ 41 100 (bm 45 4398046511103) ?_
                      refine pureU_ 42 101 (bm 45 8796093022207) ?_
                      refine pureA_ 43 102 (bm 45 17592186044415) ?_
                      refine pureA_ 44 4 (bm 45 35184372088831) ?_
                      refine done_ (done_of HT_.out (by kernel_rfl)) ?_
                      try go_wp2
                      go_ret
                      exact ⟨by first | rfl | (simp [errW_none, errW_some] <;> rfl) | (simp [*, errW_none, errW_some] <;> rfl), by repeat (first | (with_reducible first | exact HB.out | apply below_alloc | apply pw_below_drewN | apply below_drew1 | refine below_set ?_ GE251.out | refine below_set ?_ GE252.out) | exact HB.out)⟩
                  · rw [if_neg c26] at H
                    have c26b0 : (t262 == t264) = false := beq_eq_false_iff_ne.mpr c26
                    have c26b1 : (t262 != t264) = true := bne_iff_ne.mpr c26
                    obtain rfl := Option.some.inj H
                    have hnb81 := NB251_252.out
                    have hnc81 := NB252_251.out
                    obtain ⟨hcz82_0, hcz82_1, hcz82_2, hcz82_3, hcz82_4, hcz82_5, hcz82_6, hfz82_0, hfz82_1, hfz82_2, hfz82_3, hfz82_4, hfz82_5, hfz82_6⟩ := cz7_ (w := wc) BK251.out
                    try go_wp2_with (first | ((with_reducible refine gate_callee (f := 28) rfl ?_); refine goesL_ (some 31) rfl rfl Try.func28 (by kernel_rfl) rfl #[.agg #[.int .u64 a0_0, .int .u64 a0_1, .int .u64 a0_2, .int .u64 a0_3, .int .u64 a0_4, .slice A0_5 l0_5.length c0_5, .bool a0_6]] rfl (by (try simp only [List.map_toArray, List.map_cons, List.map_nil]); first | done | rfl | (simp only [List.length_drop, List.length_take]; rfl)) ?_; (with_reducible refine (channel_Held.calls kj4 a0_0 a0_1 a0_2 a0_3 a0_4 _ _ l0_5 a0_6 t254 t255 _ ?side1 ?side2 A16.out).mono ?_); (case side1 => repeat (first | exact (Kd.C_below HR0_5.out HB.out) | (with_reducible refine Kd.C_alloc ?_ _) | (with_reducible refine Kd.C_drewN ?_ _) | (with_reducible refine Kd.C_drew ?_))); (case side2 => exact HC0_5.out); rintro e w83 ⟨rfl, hb⟩; refine ⟨_, rfl, ?_⟩; have n0_ := Aside0.mk (blk_below (g := gb251) (blkN BK251) hb); have n1_ := Aside0.mk (blk_below (g := gb252) (blkN BK252) hb); have n2_ := Aside0.mk (below_step (belN HB) hb); clear BK251; clear BK252; clear HB; have BK251 := n0_; have BK252 := n1_; have HB := n2_; clear n0_ n1_ n2_; (try clear hb); (try clear hb2); (try clear hk); (try clear hi); obtain ⟨hcz84_0, hcz84_1, hcz84_2, hcz84_3, hcz84_4, hcz84_5, hcz84_6, hfz84_0, hfz84_1, hfz84_2, hfz84_3, hfz84_4, hfz84_5, hfz84_6⟩ := cz7_ (w := w83) BK251.out) | ((with_reducible refine gate_callee (f := 29) rfl ?_); refine goesL_ (some 36) rfl rfl Try.func29 (by kernel_rfl) rfl #[.agg #[.int .u64 a0_0, .int .u64 a0_1, .int .u64 a0_2, .int .u64 a0_3, .int .u64 a0_4, .slice A0_5 l0_5.length c0_5, .bool a0_6]] rfl (by (try simp only [List.map_toArray, List.map_cons, List.map_nil]); first | done | rfl | (simp only [List.length_drop, List.length_take]; rfl)) ?_; (with_reducible refine (damsonref09_Held.calls kj4 a0_0 a0_1 a0_2 a0_3 a0_4 _ _ l0_5 a0_6 t256 t257 _ ?side1 ?side2 A17.out).mono ?_); (case side1 => repeat (first | exact (Kd.C_below HR0_5.out HB.out) | (with_reducible refine Kd.C_alloc ?_ _) | (with_reducible refine Kd.C_drewN ?_ _) | (with_reducible refine Kd.C_drew ?_))); (case side2 => exact HC0_5.out); rintro e w85 ⟨rfl, hb⟩; refine ⟨_, rfl, ?_⟩; have n0_ := Aside0.mk (blk_below (g := gb251) (blkN BK251) hb); have n1_ := Aside0.mk (blk_below (g := gb252) (blkN BK252) hb); have n2_ := Aside0.mk (below_step (belN HB) hb); clear BK251; clear BK252; clear HB; have BK251 := n0_; have BK252 := n1_; have HB := n2_; clear n0_ n1_ n2_; (try clear hb); (try clear hb2); (try clear hk); (try clear hi); obtain ⟨hcz86_0, hcz86_1, hcz86_2, hcz86_3, hcz86_4, hcz86_5, hcz86_6, hfz86_0, hfz86_1, hfz86_2, hfz86_3, hfz86_4, hfz86_5, hfz86_6⟩ := cz7_ (w := w85) BK251.out) | ((with_reducible refine gate_callee (f := 30) rfl ?_); refine goesL_ (some 41) rfl rfl Try.func30 (by kernel_rfl) rfl #[.agg #[.int .u64 a0_0, .int .u64 a0_1, .int .u64 a0_2, .int .u64 a0_3, .int .u64 a0_4, .slice A0_5 l0_5.length c0_5, .bool a0_6]] rfl (by (try simp only [List.map_toArray, List.map_cons, List.map_nil]); first | done | rfl | (simp only [List.length_drop, List.length_take]; rfl)) ?_; (with_reducible refine (channel_All.calls kj4 a0_0 a0_1 a0_2 a0_3 a0_4 _ _ l0_5 a0_6 t258 t259 _ ?side1 ?side2 A18.out).mono ?_); (case side1 => repeat (first | exact (Kd.C_below HR0_5.out HB.out) | (with_reducible refine Kd.C_alloc ?_ _) | (with_reducible refine Kd.C_drewN ?_ _) | (with_reducible refine Kd.C_drew ?_))); (case side2 => exact HC0_5.out); rintro e w87 ⟨rfl, hb⟩; refine ⟨_, rfl, ?_⟩; have n0_ := Aside0.mk (blk_below (g := gb251) (blkN BK251) hb); have n1_ := Aside0.mk (blk_below (g := gb252) (blkN BK252) hb); have n2_ := Aside0.mk (below_step (belN HB) hb); clear BK251; clear BK252; clear HB; have BK251 := n0_; have BK252 := n1_; have HB := n2_; clear n0_ n1_ n2_; (try clear hb); (try clear hb2); (try clear hk); (try clear hi); obtain ⟨hcz88_0, hcz88_1, hcz88_2, hcz88_3, hcz88_4, hcz88_5, hcz88_6, hfz88_0, hfz88_1, hfz88_2, hfz88_3, hfz88_4, hfz88_5, hfz88_6⟩ := cz7_ (w := w87) BK251.out) | ((with_reducible refine gate_callee (f := 31) rfl ?_); refine goesL_ (some 46) rfl rfl Try.func31 (by kernel_rfl) rfl #[.agg #[.int .u64 a0_0, .int .u64 a0_1, .int .u64 a0_2, .int .u64 a0_3, .int .u64 a0_4, .slice A0_5 l0_5.length c0_5, .bool a0_6]] rfl (by (try simp only [List.map_toArray, List.map_cons, List.map_nil]); first | done | rfl | (simp only [List.length_drop, List.length_take]; rfl)) ?_; (with_reducible refine (damsonref09_All.calls kj4 a0_0 a0_1 a0_2 a0_3 a0_4 _ _ l0_5 a0_6 t260 t261 _ ?side1 ?side2 A19.out).mono ?_); (case side1 => repeat (first | exact (Kd.C_below HR0_5.out HB.out) | (with_reducible refine Kd.C_alloc ?_ _) | (with_reducible refine Kd.C_drewN ?_ _) | (with_reducible refine Kd.C_drew ?_))); (case side2 => exact HC0_5.out); rintro e w89 ⟨rfl, hb⟩; refine ⟨_, rfl, ?_⟩; have n0_ := Aside0.mk (blk_below (g := gb251) (blkN BK251) hb); have n1_ := Aside0.mk (blk_below (g := gb252) (blkN BK252) hb); have n2_ := Aside0.mk (below_step (belN HB) hb); clear BK251; clear BK252; clear HB; have BK251 := n0_; have BK252 := n1_; have HB := n2_; clear n0_ n1_ n2_; (try clear hb); (try clear hb2); (try clear hk); (try clear hi); obtain ⟨hcz90_0, hcz90_1, hcz90_2, hcz90_3, hcz90_4, hcz90_5, hcz90_6, hfz90_0, hfz90_1, hfz90_2, hfz90_3, hfz90_4, hfz90_5, hfz90_6⟩ := cz7_ (w := w89) BK251.out) | ((with_reducible refine gate_callee (f := 22) rfl ?_); refine goesL_ (some 51) rfl rfl Try.func22 (by kernel_rfl) rfl #[.agg #[.int .u64 a0_0, .int .u64 a0_1, .int .u64 a0_2, .int .u64 a0_3, .int .u64 a0_4, .slice A0_5 l0_5.length c0_5, .bool a0_6]] rfl (by (try simp only [List.map_toArray, List.map_cons, List.map_nil]); first | done | rfl | (simp only [List.length_drop, List.length_take]; rfl)) ?_; (with_reducible refine (channel_Room.calls kj4 a0_0 a0_1 a0_2 a0_3 a0_4 _ _ l0_5 a0_6 t262 t263 _ ?side1 ?side2 A20.out).mono ?_); (case side1 => repeat (first | exact (Kd.C_below HR0_5.out HB.out) | (with_reducible refine Kd.C_alloc ?_ _) | (with_reducible refine Kd.C_drewN ?_ _) | (with_reducible refine Kd.C_drew ?_))); (case side2 => exact HC0_5.out); rintro e w91 ⟨rfl, hb⟩; refine ⟨_, rfl, ?_⟩; have n0_ := Aside0.mk (blk_below (g := gb251) (blkN BK251) hb); have n1_ := Aside0.mk (blk_below (g := gb252) (blkN BK252) hb); have n2_ := Aside0.mk (below_step (belN HB) hb); clear BK251; clear BK252; clear HB; have BK251 := n0_; have BK252 := n1_; have HB := n2_; clear n0_ n1_ n2_; (try clear hb); (try clear hb2); (try clear hk); (try clear hi); obtain ⟨hcz92_0, hcz92_1, hcz92_2, hcz92_3, hcz92_4, hcz92_5, hcz92_6, hfz92_0, hfz92_1, hfz92_2, hfz92_3, hfz92_4, hfz92_5, hfz92_6⟩ := cz7_ (w := w91) BK251.out) | ((with_reducible refine gate_callee (f := 32) rfl ?_); refine goesL_ (some 56) rfl rfl Try.func32 (by kernel_rfl) rfl #[.agg #[.int .u64 a0_0, .int .u64 a0_1, .int .u64 a0_2, .int .u64 a0_3, .int .u64 a0_4, .slice A0_5 l0_5.length c0_5, .bool a0_6]] rfl (by (try simp only [List.map_toArray, List.map_cons, List.map_nil]); first | done | rfl | (simp only [List.length_drop, List.length_take]; rfl)) ?_; (with_reducible refine (damsonref09_Room.calls kj4 a0_0 a0_1 a0_2 a0_3 a0_4 _ _ l0_5 a0_6 t264 t265 _ ?side1 ?side2 A21.out).mono ?_); (case side1 => repeat (first | exact (Kd.C_below HR0_5.out HB.out) | (with_reducible refine Kd.C_alloc ?_ _) | (with_reducible refine Kd.C_drewN ?_ _) | (with_reducible refine Kd.C_drew ?_))); (case side2 => exact HC0_5.out); rintro e w93 ⟨rfl, hb⟩; refine ⟨_, rfl, ?_⟩; have n0_ := Aside0.mk (blk_below (g := gb251) (blkN BK251) hb); have n1_ := Aside0.mk (blk_below (g := gb252) (blkN BK252) hb); have n2_ := Aside0.mk (below_step (belN HB) hb); clear BK251; clear BK252; clear HB; have BK251 := n0_; have BK252 := n1_; have HB := n2_; clear n0_ n1_ n2_; (try clear hb); (try clear hb2); (try clear hk); (try clear hi)))
                    have n0_ := Aside0.mk (blk_drew BK251.out)
                    have n1_ := Aside0.mk (blk_drew BK252.out)
                    have n2_ := Aside0.mk (below_drew1 HB.out)
                    clear BK251
                    clear BK252
                    clear HB
                    have BK251 := n0_
                    have BK252 := n1_
                    have HB := n2_
                    clear n0_ n1_ n2_
                    refine start_ (n := 45) (S := fun w' => True) (ds := []) #[false, false, false, false, false, false, false, false, false, false, false, false, false, false, false, false, false, false, false, false, false, false, false, false, false, false, false, false, false, false, false, false, false, false, false, false, false, false, false, false, false, false, false, false, false] (by kernel_rfl) rfl rfl trivial (fun hHeld => ?_); refine with_tabW damsonlaw09_ChannelTells.tab11 damsonlaw09_ChannelTells.bits11 (fun HT_ HW_ => ?_)
                    generalize w93.drew = w94 at BK251 BK252 HB hHeld ⊢
                    refine pureA_ 0 59 (bm 45 1) ?_
                    refine pureA_ 1 60 (bm 45 3) ?_
                    refine pureA_ 2 61 (bm 45 7) ?_
                    refine pureA_ 3 62 (bm 45 15) ?_
                    refine pureA_ 4 63 (bm 45 31) ?_
                    refine pureA_ 5 64 (bm 45 63) ?_
                    refine pureA_ 6 65 (bm 45 127) ?_
                    refine pureA_ 7 66 (bm 45 255) ?_
                    refine pureA_ 8 67 (bm 45 511) ?_
                    refine pureA_ 9 68 (bm 45 1023) ?_
                    refine pureA_ 10 69 (bm 45 2047) ?_
                    refine pureA_ 11 70 (bm 45 4095) ?_
                    refine pureA_ 12 71 (bm 45 8191) ?_
                    refine pureA_ 13 72 (bm 45 16383) ?_
                    refine pureA_ 14 73 (bm 45 32767) ?_
                    refine pureA_ 15 74 (bm 45 65535) ?_
                    refine pureA_ 16 75 (bm 45 131071) ?_
                    refine pureA_ 17 76 (bm 45 262143) ?_
                    refine pureA_ 18 77 (bm 45 524287) ?_
                    refine pureA_ 19 78 (bm 45 1048575) ?_
                    refine pureA_ 20 79 (bm 45 2097151) ?_
                    refine pureA_ 21 80 (bm 45 4194303) ?_
                    refine pureA_ 22 81 (bm 45 8388607) ?_
                    refine pureA_ 23 82 (bm 45 16777215) ?_
                    refine pureU_ 24 83 (bm 45 33554431) ?_
                    refine pureU_ 25 84 (bm 45 67108863) ?_
                    refine pureU_ 26 85 (bm 45 134217727) ?_
                    refine pureA_ 27 86 (bm 45 268435455) ?_
                    refine pureA_ 28 87 (bm 45 536870911) ?_
                    refine pureU_ 29 88 (bm 45 1073741823) ?_
                    refine pureU_ 30 89 (bm 45 2147483647) ?_
                    refine pureU_ 31 90 (bm 45 4294967295) ?_
                    refine pureU_ 32 91 (bm 45 8589934591) ?_
                    refine pureU_ 33 92 (bm 45 17179869183) ?_
                    refine pureA_ 34 93 (bm 45 34359738367) ?_
                    refine pureA_ 35 94 (bm 45 68719476735) ?_
                    refine pureU_ 36 95 (bm 45 137438953471) ?_
                    refine pureU_ 37 96 (bm 45 274877906943) ?_
                    refine pureU_ 38 97 (bm 45 549755813887) ?_
                    refine pureU_ 39 98 (bm 45 1099511627775) ?_
                    refine pureU_ 40 99 (bm 45 2199023255551) ?_
                    refine pureU_ 41 100 (bm 45 4398046511103) ?_
                    refine pureU_ 42 101 (bm 45 8796093022207) ?_
                    refine pureA_ 43 102 (bm 45 17592186044415) ?_
                    refine pureA_ 44 4 (bm 45 35184372088831) ?_
                    refine done_ (done_of HT_.out (by kernel_rfl)) ?_
                    try go_wp2
                    go_ret
                    exact ⟨by first | rfl | (simp [errW_none, errW_some] <;> rfl) | (simp [*, errW_none, errW_some] <;> rfl), by repeat (first | (with_reducible first | exact HB.out | apply below_alloc | apply pw_below_drewN | apply below_drew1 | refine below_set ?_ GE251.out | refine below_set ?_ GE252.out) | exact HB.out)⟩
                · rw [if_neg c25] at H
                  have c25b0 : (t259 == t261) = false := beq_eq_false_iff_ne.mpr c25
                  have c25b1 : (t259 != t261) = true := bne_iff_ne.mpr c25
                  obtain rfl := Option.some.inj H
                  have hnb95 := NB251_252.out
                  have hnc95 := NB252_251.out
                  obtain ⟨hcz96_0, hcz96_1, hcz96_2, hcz96_3, hcz96_4, hcz96_5, hcz96_6, hfz96_0, hfz96_1, hfz96_2, hfz96_3, hfz96_4, hfz96_5, hfz96_6⟩ := cz7_ (w := wc) BK251.out
                  try go_wp2_with (first | ((with_reducible refine gate_callee (f := 28) rfl ?_); refine goesL_ (some 31) rfl rfl Try.func28 (by kernel_rfl) rfl #[.agg #[.int .u64 a0_0, .int .u64 a0_1, .int .u64 a0_2, .int .u64 a0_3, .int .u64 a0_4, .slice A0_5 l0_5.length c0_5, .bool a0_6]] rfl (by (try simp only [List.map_toArray, List.map_cons, List.map_nil]); first | done | rfl | (simp only [List.length_drop, List.length_take]; rfl)) ?_; (with_reducible refine (channel_Held.calls kj4 a0_0 a0_1 a0_2 a0_3 a0_4 _ _ l0_5 a0_6 t254 t255 _ ?side1 ?side2 A16.out).mono ?_); (case side1 => repeat (first | exact (Kd.C_below HR0_5.out HB.out) | (with_reducible refine Kd.C_alloc ?_ _) | (with_reducible refine Kd.C_drewN ?_ _) | (with_reducible refine Kd.C_drew ?_))); (case side2 => exact HC0_5.out); rintro e w97 ⟨rfl, hb⟩; refine ⟨_, rfl, ?_⟩; have n0_ := Aside0.mk (blk_below (g := gb251) (blkN BK251) hb); have n1_ := Aside0.mk (blk_below (g := gb252) (blkN BK252) hb); have n2_ := Aside0.mk (below_step (belN HB) hb); clear BK251; clear BK252; clear HB; have BK251 := n0_; have BK252 := n1_; have HB := n2_; clear n0_ n1_ n2_; (try clear hb); (try clear hb2); (try clear hk); (try clear hi); obtain ⟨hcz98_0, hcz98_1, hcz98_2, hcz98_3, hcz98_4, hcz98_5, hcz98_6, hfz98_0, hfz98_1, hfz98_2, hfz98_3, hfz98_4, hfz98_5, hfz98_6⟩ := cz7_ (w := w97) BK251.out) | ((with_reducible refine gate_callee (f := 29) rfl ?_); refine goesL_ (some 36) rfl rfl Try.func29 (by kernel_rfl) rfl #[.agg #[.int .u64 a0_0, .int .u64 a0_1, .int .u64 a0_2, .int .u64 a0_3, .int .u64 a0_4, .slice A0_5 l0_5.length c0_5, .bool a0_6]] rfl (by (try simp only [List.map_toArray, List.map_cons, List.map_nil]); first | done | rfl | (simp only [List.length_drop, List.length_take]; rfl)) ?_; (with_reducible refine (damsonref09_Held.calls kj4 a0_0 a0_1 a0_2 a0_3 a0_4 _ _ l0_5 a0_6 t256 t257 _ ?side1 ?side2 A17.out).mono ?_); (case side1 => repeat (first | exact (Kd.C_below HR0_5.out HB.out) | (with_reducible refine Kd.C_alloc ?_ _) | (with_reducible refine Kd.C_drewN ?_ _) | (with_reducible refine Kd.C_drew ?_))); (case side2 => exact HC0_5.out); rintro e w99 ⟨rfl, hb⟩; refine ⟨_, rfl, ?_⟩; have n0_ := Aside0.mk (blk_below (g := gb251) (blkN BK251) hb); have n1_ := Aside0.mk (blk_below (g := gb252) (blkN BK252) hb); have n2_ := Aside0.mk (below_step (belN HB) hb); clear BK251; clear BK252; clear HB; have BK251 := n0_; have BK252 := n1_; have HB := n2_; clear n0_ n1_ n2_; (try clear hb); (try clear hb2); (try clear hk); (try clear hi); obtain ⟨hcz100_0, hcz100_1, hcz100_2, hcz100_3, hcz100_4, hcz100_5, hcz100_6, hfz100_0, hfz100_1, hfz100_2, hfz100_3, hfz100_4, hfz100_5, hfz100_6⟩ := cz7_ (w := w99) BK251.out) | ((with_reducible refine gate_callee (f := 30) rfl ?_); refine goesL_ (some 41) rfl rfl Try.func30 (by kernel_rfl) rfl #[.agg #[.int .u64 a0_0, .int .u64 a0_1, .int .u64 a0_2, .int .u64 a0_3, .int .u64 a0_4, .slice A0_5 l0_5.length c0_5, .bool a0_6]] rfl (by (try simp only [List.map_toArray, List.map_cons, List.map_nil]); first | done | rfl | (simp only [List.length_drop, List.length_take]; rfl)) ?_; (with_reducible refine (channel_All.calls kj4 a0_0 a0_1 a0_2 a0_3 a0_4 _ _ l0_5 a0_6 t258 t259 _ ?side1 ?side2 A18.out).mono ?_); (case side1 => repeat (first | exact (Kd.C_below HR0_5.out HB.out) | (with_reducible refine Kd.C_alloc ?_ _) | (with_reducible refine Kd.C_drewN ?_ _) | (with_reducible refine Kd.C_drew ?_))); (case side2 => exact HC0_5.out); rintro e w101 ⟨rfl, hb⟩; refine ⟨_, rfl, ?_⟩; have n0_ := Aside0.mk (blk_below (g := gb251) (blkN BK251) hb); have n1_ := Aside0.mk (blk_below (g := gb252) (blkN BK252) hb); have n2_ := Aside0.mk (below_step (belN HB) hb); clear BK251; clear BK252; clear HB; have BK251 := n0_; have BK252 := n1_; have HB := n2_; clear n0_ n1_ n2_; (try clear hb); (try clear hb2); (try clear hk); (try clear hi); obtain ⟨hcz102_0, hcz102_1, hcz102_2, hcz102_3, hcz102_4, hcz102_5, hcz102_6, hfz102_0, hfz102_1, hfz102_2, hfz102_3, hfz102_4, hfz102_5, hfz102_6⟩ := cz7_ (w := w101) BK251.out) | ((with_reducible refine gate_callee (f := 31) rfl ?_); refine goesL_ (some 46) rfl rfl Try.func31 (by kernel_rfl) rfl #[.agg #[.int .u64 a0_0, .int .u64 a0_1, .int .u64 a0_2, .int .u64 a0_3, .int .u64 a0_4, .slice A0_5 l0_5.length c0_5, .bool a0_6]] rfl (by (try simp only [List.map_toArray, List.map_cons, List.map_nil]); first | done | rfl | (simp only [List.length_drop, List.length_take]; rfl)) ?_; (with_reducible refine (damsonref09_All.calls kj4 a0_0 a0_1 a0_2 a0_3 a0_4 _ _ l0_5 a0_6 t260 t261 _ ?side1 ?side2 A19.out).mono ?_); (case side1 => repeat (first | exact (Kd.C_below HR0_5.out HB.out) | (with_reducible refine Kd.C_alloc ?_ _) | (with_reducible refine Kd.C_drewN ?_ _) | (with_reducible refine Kd.C_drew ?_))); (case side2 => exact HC0_5.out); rintro e w103 ⟨rfl, hb⟩; refine ⟨_, rfl, ?_⟩; have n0_ := Aside0.mk (blk_below (g := gb251) (blkN BK251) hb); have n1_ := Aside0.mk (blk_below (g := gb252) (blkN BK252) hb); have n2_ := Aside0.mk (below_step (belN HB) hb); clear BK251; clear BK252; clear HB; have BK251 := n0_; have BK252 := n1_; have HB := n2_; clear n0_ n1_ n2_; (try clear hb); (try clear hb2); (try clear hk); (try clear hi); obtain ⟨hcz104_0, hcz104_1, hcz104_2, hcz104_3, hcz104_4, hcz104_5, hcz104_6, hfz104_0, hfz104_1, hfz104_2, hfz104_3, hfz104_4, hfz104_5, hfz104_6⟩ := cz7_ (w := w103) BK251.out) | ((with_reducible refine gate_callee (f := 22) rfl ?_); refine goesL_ (some 51) rfl rfl Try.func22 (by kernel_rfl) rfl #[.agg #[.int .u64 a0_0, .int .u64 a0_1, .int .u64 a0_2, .int .u64 a0_3, .int .u64 a0_4, .slice A0_5 l0_5.length c0_5, .bool a0_6]] rfl (by (try simp only [List.map_toArray, List.map_cons, List.map_nil]); first | done | rfl | (simp only [List.length_drop, List.length_take]; rfl)) ?_; (with_reducible refine (channel_Room.calls kj4 a0_0 a0_1 a0_2 a0_3 a0_4 _ _ l0_5 a0_6 t262 t263 _ ?side1 ?side2 A20.out).mono ?_); (case side1 => repeat (first | exact (Kd.C_below HR0_5.out HB.out) | (with_reducible refine Kd.C_alloc ?_ _) | (with_reducible refine Kd.C_drewN ?_ _) | (with_reducible refine Kd.C_drew ?_))); (case side2 => exact HC0_5.out); rintro e w105 ⟨rfl, hb⟩; refine ⟨_, rfl, ?_⟩; have n0_ := Aside0.mk (blk_below (g := gb251) (blkN BK251) hb); have n1_ := Aside0.mk (blk_below (g := gb252) (blkN BK252) hb); have n2_ := Aside0.mk (below_step (belN HB) hb); clear BK251; clear BK252; clear HB; have BK251 := n0_; have BK252 := n1_; have HB := n2_; clear n0_ n1_ n2_; (try clear hb); (try clear hb2); (try clear hk); (try clear hi); obtain ⟨hcz106_0, hcz106_1, hcz106_2, hcz106_3, hcz106_4, hcz106_5, hcz106_6, hfz106_0, hfz106_1, hfz106_2, hfz106_3, hfz106_4, hfz106_5, hfz106_6⟩ := cz7_ (w := w105) BK251.out) | ((with_reducible refine gate_callee (f := 32) rfl ?_); refine goesL_ (some 56) rfl rfl Try.func32 (by kernel_rfl) rfl #[.agg #[.int .u64 a0_0, .int .u64 a0_1, .int .u64 a0_2, .int .u64 a0_3, .int .u64 a0_4, .slice A0_5 l0_5.length c0_5, .bool a0_6]] rfl (by (try simp only [List.map_toArray, List.map_cons, List.map_nil]); first | done | rfl | (simp only [List.length_drop, List.length_take]; rfl)) ?_; (with_reducible refine (damsonref09_Room.calls kj4 a0_0 a0_1 a0_2 a0_3 a0_4 _ _ l0_5 a0_6 t264 t265 _ ?side1 ?side2 A21.out).mono ?_); (case side1 => repeat (first | exact (Kd.C_below HR0_5.out HB.out) | (with_reducible refine Kd.C_alloc ?_ _) | (with_reducible refine Kd.C_drewN ?_ _) | (with_reducible refine Kd.C_drew ?_))); (case side2 => exact HC0_5.out); rintro e w107 ⟨rfl, hb⟩; refine ⟨_, rfl, ?_⟩; have n0_ := Aside0.mk (blk_below (g := gb251) (blkN BK251) hb); have n1_ := Aside0.mk (blk_below (g := gb252) (blkN BK252) hb); have n2_ := Aside0.mk (below_step (belN HB) hb); clear BK251; clear BK252; clear HB; have BK251 := n0_; have BK252 := n1_; have HB := n2_; clear n0_ n1_ n2_; (try clear hb); (try clear hb2); (try clear hk); (try clear hi)))
                  have n0_ := Aside0.mk (blk_drew BK251.out)
                  have n1_ := Aside0.mk (blk_drew BK252.out)
                  have n2_ := Aside0.mk (below_drew1 HB.out)
                  clear BK251
                  clear BK252
                  clear HB
                  have BK251 := n0_
                  have BK252 := n1_
                  have HB := n2_
                  clear n0_ n1_ n2_
                  refine start_ (n := 45) (S := fun w' => True) (ds := []) #[false, false, false, false, false, false, false, false, false, false, false, false, false, false, false, false, false, false, false, false, false, false, false, false, false, false, false, false, false, false, false, false, false, false, false, false, false, false, false, false, false, false, false, false, false] (by kernel_rfl) rfl rfl trivial (fun hHeld => ?_); refine with_tabW damsonlaw09_ChannelTells.tab11 damsonlaw09_ChannelTells.bits11 (fun HT_ HW_ => ?_)
                  generalize w107.drew = w108 at BK251 BK252 HB hHeld ⊢
                  refine pureA_ 0 59 (bm 45 1) ?_
                  refine pureA_ 1 60 (bm 45 3) ?_
                  refine pureA_ 2 61 (bm 45 7) ?_
                  refine pureA_ 3 62 (bm 45 15) ?_
                  refine pureA_ 4 63 (bm 45 31) ?_
                  refine pureA_ 5 64 (bm 45 63) ?_
                  refine pureA_ 6 65 (bm 45 127) ?_
                  refine pureA_ 7 66 (bm 45 255) ?_
                  refine pureA_ 8 67 (bm 45 511) ?_
                  refine pureA_ 9 68 (bm 45 1023) ?_
                  refine pureA_ 10 69 (bm 45 2047) ?_
                  refine pureA_ 11 70 (bm 45 4095) ?_
                  refine pureA_ 12 71 (bm 45 8191) ?_
                  refine pureA_ 13 72 (bm 45 16383) ?_
                  refine pureA_ 14 73 (bm 45 32767) ?_
                  refine pureA_ 15 74 (bm 45 65535) ?_
                  refine pureA_ 16 75 (bm 45 131071) ?_
                  refine pureA_ 17 76 (bm 45 262143) ?_
                  refine pureA_ 18 77 (bm 45 524287) ?_
                  refine pureU_ 19 78 (bm 45 1048575) ?_
                  refine pureU_ 20 79 (bm 45 2097151) ?_
                  refine pureU_ 21 80 (bm 45 4194303) ?_
                  refine pureA_ 22 81 (bm 45 8388607) ?_
                  refine pureA_ 23 82 (bm 45 16777215) ?_
                  refine pureU_ 24 83 (bm 45 33554431) ?_
                  refine pureU_ 25 84 (bm 45 67108863) ?_
                  refine pureU_ 26 85 (bm 45 134217727) ?_
                  refine pureA_ 27 86 (bm 45 268435455) ?_
                  refine pureA_ 28 87 (bm 45 536870911) ?_
                  refine pureU_ 29 88 (bm 45 1073741823) ?_
                  refine pureU_ 30 89 (bm 45 2147483647) ?_
                  refine pureU_ 31 90 (bm 45 4294967295) ?_
                  refine pureU_ 32 91 (bm 45 8589934591) ?_
                  refine pureU_ 33 92 (bm 45 17179869183) ?_
                  refine pureA_ 34 93 (bm 45 34359738367) ?_
                  refine pureA_ 35 94 (bm 45 68719476735) ?_
                  refine pureU_ 36 95 (bm 45 137438953471) ?_
                  refine pureU_ 37 96 (bm 45 274877906943) ?_
                  refine pureU_ 38 97 (bm 45 549755813887) ?_
                  refine pureU_ 39 98 (bm 45 1099511627775) ?_
                  refine pureU_ 40 99 (bm 45 2199023255551) ?_
                  refine pureU_ 41 100 (bm 45 4398046511103) ?_
                  refine pureU_ 42 101 (bm 45 8796093022207) ?_
                  refine pureA_ 43 102 (bm 45 17592186044415) ?_
                  refine pureA_ 44 4 (bm 45 35184372088831) ?_
                  refine done_ (done_of HT_.out (by kernel_rfl)) ?_
                  try go_wp2
                  go_ret
                  exact ⟨by first | rfl | (simp [errW_none, errW_some] <;> rfl) | (simp [*, errW_none, errW_some] <;> rfl), by repeat (first | (with_reducible first | exact HB.out | apply below_alloc | apply pw_below_drewN | apply below_drew1 | refine below_set ?_ GE251.out | refine below_set ?_ GE252.out) | exact HB.out)⟩
              · rw [if_neg c24] at H
                have c24b0 : (t258 == t260) = false := beq_eq_false_iff_ne.mpr c24
                have c24b1 : (t258 != t260) = true := bne_iff_ne.mpr c24
                obtain rfl := Option.some.inj H
                have hnb109 := NB251_252.out
                have hnc109 := NB252_251.out
                obtain ⟨hcz110_0, hcz110_1, hcz110_2, hcz110_3, hcz110_4, hcz110_5, hcz110_6, hfz110_0, hfz110_1, hfz110_2, hfz110_3, hfz110_4, hfz110_5, hfz110_6⟩ := cz7_ (w := wc) BK251.out
                try go_wp2_with (first | ((with_reducible refine gate_callee (f := 28) rfl ?_); refine goesL_ (some 31) rfl rfl Try.func28 (by kernel_rfl) rfl #[.agg #[.int .u64 a0_0, .int .u64 a0_1, .int .u64 a0_2, .int .u64 a0_3, .int .u64 a0_4, .slice A0_5 l0_5.length c0_5, .bool a0_6]] rfl (by (try simp only [List.map_toArray, List.map_cons, List.map_nil]); first | done | rfl | (simp only [List.length_drop, List.length_take]; rfl)) ?_; (with_reducible refine (channel_Held.calls kj4 a0_0 a0_1 a0_2 a0_3 a0_4 _ _ l0_5 a0_6 t254 t255 _ ?side1 ?side2 A16.out).mono ?_); (case side1 => repeat (first | exact (Kd.C_below HR0_5.out HB.out) | (with_reducible refine Kd.C_alloc ?_ _) | (with_reducible refine Kd.C_drewN ?_ _) | (with_reducible refine Kd.C_drew ?_))); (case side2 => exact HC0_5.out); rintro e w111 ⟨rfl, hb⟩; refine ⟨_, rfl, ?_⟩; have n0_ := Aside0.mk (blk_below (g := gb251) (blkN BK251) hb); have n1_ := Aside0.mk (blk_below (g := gb252) (blkN BK252) hb); have n2_ := Aside0.mk (below_step (belN HB) hb); clear BK251; clear BK252; clear HB; have BK251 := n0_; have BK252 := n1_; have HB := n2_; clear n0_ n1_ n2_; (try clear hb); (try clear hb2); (try clear hk); (try clear hi); obtain ⟨hcz112_0, hcz112_1, hcz112_2, hcz112_3, hcz112_4, hcz112_5, hcz112_6, hfz112_0, hfz112_1, hfz112_2, hfz112_3, hfz112_4, hfz112_5, hfz112_6⟩ := cz7_ (w := w111) BK251.out) | ((with_reducible refine gate_callee (f := 29) rfl ?_); refine goesL_ (some 36) rfl rfl Try.func29 (by kernel_rfl) rfl #[.agg #[.int .u64 a0_0, .int .u64 a0_1, .int .u64 a0_2, .int .u64 a0_3, .int .u64 a0_4, .slice A0_5 l0_5.length c0_5, .bool a0_6]] rfl (by (try simp only [List.map_toArray, List.map_cons, List.map_nil]); first | done | rfl | (simp only [List.length_drop, List.length_take]; rfl)) ?_; (with_reducible refine (damsonref09_Held.calls kj4 a0_0 a0_1 a0_2 a0_3 a0_4 _ _ l0_5 a0_6 t256 t257 _ ?side1 ?side2 A17.out).mono ?_); (case side1 => repeat (first | exact (Kd.C_below HR0_5.out HB.out) | (with_reducible refine Kd.C_alloc ?_ _) | (with_reducible refine Kd.C_drewN ?_ _) | (with_reducible refine Kd.C_drew ?_))); (case side2 => exact HC0_5.out); rintro e w113 ⟨rfl, hb⟩; refine ⟨_, rfl, ?_⟩; have n0_ := Aside0.mk (blk_below (g := gb251) (blkN BK251) hb); have n1_ := Aside0.mk (blk_below (g := gb252) (blkN BK252) hb); have n2_ := Aside0.mk (below_step (belN HB) hb); clear BK251; clear BK252; clear HB; have BK251 := n0_; have BK252 := n1_; have HB := n2_; clear n0_ n1_ n2_; (try clear hb); (try clear hb2); (try clear hk); (try clear hi); obtain ⟨hcz114_0, hcz114_1, hcz114_2, hcz114_3, hcz114_4, hcz114_5, hcz114_6, hfz114_0, hfz114_1, hfz114_2, hfz114_3, hfz114_4, hfz114_5, hfz114_6⟩ := cz7_ (w := w113) BK251.out) | ((with_reducible refine gate_callee (f := 30) rfl ?_); refine goesL_ (some 41) rfl rfl Try.func30 (by kernel_rfl) rfl #[.agg #[.int .u64 a0_0, .int .u64 a0_1, .int .u64 a0_2, .int .u64 a0_3, .int .u64 a0_4, .slice A0_5 l0_5.length c0_5, .bool a0_6]] rfl (by (try simp only [List.map_toArray, List.map_cons, List.map_nil]); first | done | rfl | (simp only [List.length_drop, List.length_take]; rfl)) ?_; (with_reducible refine (channel_All.calls kj4 a0_0 a0_1 a0_2 a0_3 a0_4 _ _ l0_5 a0_6 t258 t259 _ ?side1 ?side2 A18.out).mono ?_); (case side1 => repeat (first | exact (Kd.C_below HR0_5.out HB.out) | (with_reducible refine Kd.C_alloc ?_ _) | (with_reducible refine Kd.C_drewN ?_ _) | (with_reducible refine Kd.C_drew ?_))); (case side2 => exact HC0_5.out); rintro e w115 ⟨rfl, hb⟩; refine ⟨_, rfl, ?_⟩; have n0_ := Aside0.mk (blk_below (g := gb251) (blkN BK251) hb); have n1_ := Aside0.mk (blk_below (g := gb252) (blkN BK252) hb); have n2_ := Aside0.mk (below_step (belN HB) hb); clear BK251; clear BK252; clear HB; have BK251 := n0_; have BK252 := n1_; have HB := n2_; clear n0_ n1_ n2_; (try clear hb); (try clear hb2); (try clear hk); (try clear hi); obtain ⟨hcz116_0, hcz116_1, hcz116_2, hcz116_3, hcz116_4, hcz116_5, hcz116_6, hfz116_0, hfz116_1, hfz116_2, hfz116_3, hfz116_4, hfz116_5, hfz116_6⟩ := cz7_ (w := w115) BK251.out) | ((with_reducible refine gate_callee (f := 31) rfl ?_); refine goesL_ (some 46) rfl rfl Try.func31 (by kernel_rfl) rfl #[.agg #[.int .u64 a0_0, .int .u64 a0_1, .int .u64 a0_2, .int .u64 a0_3, .int .u64 a0_4, .slice A0_5 l0_5.length c0_5, .bool a0_6]] rfl (by (try simp only [List.map_toArray, List.map_cons, List.map_nil]); first | done | rfl | (simp only [List.length_drop, List.length_take]; rfl)) ?_; (with_reducible refine (damsonref09_All.calls kj4 a0_0 a0_1 a0_2 a0_3 a0_4 _ _ l0_5 a0_6 t260 t261 _ ?side1 ?side2 A19.out).mono ?_); (case side1 => repeat (first | exact (Kd.C_below HR0_5.out HB.out) | (with_reducible refine Kd.C_alloc ?_ _) | (with_reducible refine Kd.C_drewN ?_ _) | (with_reducible refine Kd.C_drew ?_))); (case side2 => exact HC0_5.out); rintro e w117 ⟨rfl, hb⟩; refine ⟨_, rfl, ?_⟩; have n0_ := Aside0.mk (blk_below (g := gb251) (blkN BK251) hb); have n1_ := Aside0.mk (blk_below (g := gb252) (blkN BK252) hb); have n2_ := Aside0.mk (below_step (belN HB) hb); clear BK251; clear BK252; clear HB; have BK251 := n0_; have BK252 := n1_; have HB := n2_; clear n0_ n1_ n2_; (try clear hb); (try clear hb2); (try clear hk); (try clear hi); obtain ⟨hcz118_0, hcz118_1, hcz118_2, hcz118_3, hcz118_4, hcz118_5, hcz118_6, hfz118_0, hfz118_1, hfz118_2, hfz118_3, hfz118_4, hfz118_5, hfz118_6⟩ := cz7_ (w := w117) BK251.out) | ((with_reducible refine gate_callee (f := 22) rfl ?_); refine goesL_ (some 51) rfl rfl Try.func22 (by kernel_rfl) rfl #[.agg #[.int .u64 a0_0, .int .u64 a0_1, .int .u64 a0_2, .int .u64 a0_3, .int .u64 a0_4, .slice A0_5 l0_5.length c0_5, .bool a0_6]] rfl (by (try simp only [List.map_toArray, List.map_cons, List.map_nil]); first | done | rfl | (simp only [List.length_drop, List.length_take]; rfl)) ?_; (with_reducible refine (channel_Room.calls kj4 a0_0 a0_1 a0_2 a0_3 a0_4 _ _ l0_5 a0_6 t262 t263 _ ?side1 ?side2 A20.out).mono ?_); (case side1 => repeat (first | exact (Kd.C_below HR0_5.out HB.out) | (with_reducible refine Kd.C_alloc ?_ _) | (with_reducible refine Kd.C_drewN ?_ _) | (with_reducible refine Kd.C_drew ?_))); (case side2 => exact HC0_5.out); rintro e w119 ⟨rfl, hb⟩; refine ⟨_, rfl, ?_⟩; have n0_ := Aside0.mk (blk_below (g := gb251) (blkN BK251) hb); have n1_ := Aside0.mk (blk_below (g := gb252) (blkN BK252) hb); have n2_ := Aside0.mk (below_step (belN HB) hb); clear BK251; clear BK252; clear HB; have BK251 := n0_; have BK252 := n1_; have HB := n2_; clear n0_ n1_ n2_; (try clear hb); (try clear hb2); (try clear hk); (try clear hi); obtain ⟨hcz120_0, hcz120_1, hcz120_2, hcz120_3, hcz120_4, hcz120_5, hcz120_6, hfz120_0, hfz120_1, hfz120_2, hfz120_3, hfz120_4, hfz120_5, hfz120_6⟩ := cz7_ (w := w119) BK251.out) | ((with_reducible refine gate_callee (f := 32) rfl ?_); refine goesL_ (some 56) rfl rfl Try.func32 (by kernel_rfl) rfl #[.agg #[.int .u64 a0_0, .int .u64 a0_1, .int .u64 a0_2, .int .u64 a0_3, .int .u64 a0_4, .slice A0_5 l0_5.length c0_5, .bool a0_6]] rfl (by (try simp only [List.map_toArray, List.map_cons, List.map_nil]); first | done | rfl | (simp only [List.length_drop, List.length_take]; rfl)) ?_; (with_reducible refine (damsonref09_Room.calls kj4 a0_0 a0_1 a0_2 a0_3 a0_4 _ _ l0_5 a0_6 t264 t265 _ ?side1 ?side2 A21.out).mono ?_); (case side1 => repeat (first | exact (Kd.C_below HR0_5.out HB.out) | (with_reducible refine Kd.C_alloc ?_ _) | (with_reducible refine Kd.C_drewN ?_ _) | (with_reducible refine Kd.C_drew ?_))); (case side2 => exact HC0_5.out); rintro e w121 ⟨rfl, hb⟩; refine ⟨_, rfl, ?_⟩; have n0_ := Aside0.mk (blk_below (g := gb251) (blkN BK251) hb); have n1_ := Aside0.mk (blk_below (g := gb252) (blkN BK252) hb); have n2_ := Aside0.mk (below_step (belN HB) hb); clear BK251; clear BK252; clear HB; have BK251 := n0_; have BK252 := n1_; have HB := n2_; clear n0_ n1_ n2_; (try clear hb); (try clear hb2); (try clear hk); (try clear hi)))
                have n0_ := Aside0.mk (blk_drew BK251.out)
                have n1_ := Aside0.mk (blk_drew BK252.out)
                have n2_ := Aside0.mk (below_drew1 HB.out)
                clear BK251
                clear BK252
                clear HB
                have BK251 := n0_
                have BK252 := n1_
                have HB := n2_
                clear n0_ n1_ n2_
                refine start_ (n := 45) (S := fun w' => True) (ds := []) #[false, false, false, false, false, false, false, false, false, false, false, false, false, false, false, false, false, false, false, false, false, false, false, false, false, false, false, false, false, false, false, false, false, false, false, false, false, false, false, false, false, false, false, false, false] (by kernel_rfl) rfl rfl trivial (fun hHeld => ?_); refine with_tabW damsonlaw09_ChannelTells.tab11 damsonlaw09_ChannelTells.bits11 (fun HT_ HW_ => ?_)
                generalize w121.drew = w122 at BK251 BK252 HB hHeld ⊢
                refine pureA_ 0 59 (bm 45 1) ?_
                refine pureA_ 1 60 (bm 45 3) ?_
                refine pureA_ 2 61 (bm 45 7) ?_
                refine pureA_ 3 62 (bm 45 15) ?_
                refine pureA_ 4 63 (bm 45 31) ?_
                refine pureA_ 5 64 (bm 45 63) ?_
                refine pureA_ 6 65 (bm 45 127) ?_
                refine pureA_ 7 66 (bm 45 255) ?_
                refine pureA_ 8 67 (bm 45 511) ?_
                refine pureA_ 9 68 (bm 45 1023) ?_
                refine pureA_ 10 69 (bm 45 2047) ?_
                refine pureA_ 11 70 (bm 45 4095) ?_
                refine pureA_ 12 71 (bm 45 8191) ?_
                refine pureA_ 13 72 (bm 45 16383) ?_
                refine pureU_ 14 73 (bm 45 32767) ?_
                refine pureU_ 15 74 (bm 45 65535) ?_
                refine pureU_ 16 75 (bm 45 131071) ?_
                refine pureA_ 17 76 (bm 45 262143) ?_
                refine pureA_ 18 77 (bm 45 524287) ?_
                refine pureU_ 19 78 (bm 45 1048575) ?_
                refine pureU_ 20 79 (bm 45 2097151) ?_
                refine pureU_ 21 80 (bm 45 4194303) ?_
                refine pureA_ 22 81 (bm 45 8388607) ?_
                refine pureA_ 23 82 (bm 45 16777215) ?_
                refine pureU_ 24 83 (bm 45 33554431) ?_
                refine pureU_ 25 84 (bm 45 67108863) ?_
                refine pureU_ 26 85 (bm 45 134217727) ?_
                refine pureA_ 27 86 (bm 45 268435455) ?_
                refine pureA_ 28 87 (bm 45 536870911) ?_
                refine pureU_ 29 88 (bm 45 1073741823) ?_
                refine pureU_ 30 89 (bm 45 2147483647) ?_
                refine pureU_ 31 90 (bm 45 4294967295) ?_
                refine pureU_ 32 91 (bm 45 8589934591) ?_
                refine pureU_ 33 92 (bm 45 17179869183) ?_
                refine pureA_ 34 93 (bm 45 34359738367) ?_
                refine pureA_ 35 94 (bm 45 68719476735) ?_
                refine pureU_ 36 95 (bm 45 137438953471) ?_
                refine pureU_ 37 96 (bm 45 274877906943) ?_
                refine pureU_ 38 97 (bm 45 549755813887) ?_
                refine pureU_ 39 98 (bm 45 1099511627775) ?_
                refine pureU_ 40 99 (bm 45 2199023255551) ?_
                refine pureU_ 41 100 (bm 45 4398046511103) ?_
                refine pureU_ 42 101 (bm 45 8796093022207) ?_
                refine pureA_ 43 102 (bm 45 17592186044415) ?_
                refine pureA_ 44 4 (bm 45 35184372088831) ?_
                refine done_ (done_of HT_.out (by kernel_rfl)) ?_
                try go_wp2
                go_ret
                exact ⟨by first | rfl | (simp [errW_none, errW_some] <;> rfl) | (simp [*, errW_none, errW_some] <;> rfl), by repeat (first | (with_reducible first | exact HB.out | apply below_alloc | apply pw_below_drewN | apply below_drew1 | refine below_set ?_ GE251.out | refine below_set ?_ GE252.out) | exact HB.out)⟩
            · rw [if_neg c23] at H
              have c23b0 : (t255 == t257) = false := beq_eq_false_iff_ne.mpr c23
              have c23b1 : (t255 != t257) = true := bne_iff_ne.mpr c23
              obtain rfl := Option.some.inj H
              have hnb123 := NB251_252.out
              have hnc123 := NB252_251.out
              obtain ⟨hcz124_0, hcz124_1, hcz124_2, hcz124_3, hcz124_4, hcz124_5, hcz124_6, hfz124_0, hfz124_1, hfz124_2, hfz124_3, hfz124_4, hfz124_5, hfz124_6⟩ := cz7_ (w := wc) BK251.out
              try go_wp2_with (first | ((with_reducible refine gate_callee (f := 28) rfl ?_); refine goesL_ (some 31) rfl rfl Try.func28 (by kernel_rfl) rfl #[.agg #[.int .u64 a0_0, .int .u64 a0_1, .int .u64 a0_2, .int .u64 a0_3, .int .u64 a0_4, .slice A0_5 l0_5.length c0_5, .bool a0_6]] rfl (by (try simp only [List.map_toArray, List.map_cons, List.map_nil]); first | done | rfl | (simp only [List.length_drop, List.length_take]; rfl)) ?_; (with_reducible refine (channel_Held.calls kj4 a0_0 a0_1 a0_2 a0_3 a0_4 _ _ l0_5 a0_6 t254 t255 _ ?side1 ?side2 A16.out).mono ?_); (case side1 => repeat (first | exact (Kd.C_below HR0_5.out HB.out) | (with_reducible refine Kd.C_alloc ?_ _) | (with_reducible refine Kd.C_drewN ?_ _) | (with_reducible refine Kd.C_drew ?_))); (case side2 => exact HC0_5.out); rintro e w125 ⟨rfl, hb⟩; refine ⟨_, rfl, ?_⟩; have n0_ := Aside0.mk (blk_below (g := gb251) (blkN BK251) hb); have n1_ := Aside0.mk (blk_below (g := gb252) (blkN BK252) hb); have n2_ := Aside0.mk (below_step (belN HB) hb); clear BK251; clear BK252; clear HB; have BK251 := n0_; have BK252 := n1_; have HB := n2_; clear n0_ n1_ n2_; (try clear hb); (try clear hb2); (try clear hk); (try clear hi); obtain ⟨hcz126_0, hcz126_1, hcz126_2, hcz126_3, hcz126_4, hcz126_5, hcz126_6, hfz126_0, hfz126_1, hfz126_2, hfz126_3, hfz126_4, hfz126_5, hfz126_6⟩ := cz7_ (w := w125) BK251.out) | ((with_reducible refine gate_callee (f := 29) rfl ?_); refine goesL_ (some 36) rfl rfl Try.func29 (by kernel_rfl) rfl #[.agg #[.int .u64 a0_0, .int .u64 a0_1, .int .u64 a0_2, .int .u64 a0_3, .int .u64 a0_4, .slice A0_5 l0_5.length c0_5, .bool a0_6]] rfl (by (try simp only [List.map_toArray, List.map_cons, List.map_nil]); first | done | rfl | (simp only [List.length_drop, List.length_take]; rfl)) ?_; (with_reducible refine (damsonref09_Held.calls kj4 a0_0 a0_1 a0_2 a0_3 a0_4 _ _ l0_5 a0_6 t256 t257 _ ?side1 ?side2 A17.out).mono ?_); (case side1 => repeat (first | exact (Kd.C_below HR0_5.out HB.out) | (with_reducible refine Kd.C_alloc ?_ _) | (with_reducible refine Kd.C_drewN ?_ _) | (with_reducible refine Kd.C_drew ?_))); (case side2 => exact HC0_5.out); rintro e w127 ⟨rfl, hb⟩; refine ⟨_, rfl, ?_⟩; have n0_ := Aside0.mk (blk_below (g := gb251) (blkN BK251) hb); have n1_ := Aside0.mk (blk_below (g := gb252) (blkN BK252) hb); have n2_ := Aside0.mk (below_step (belN HB) hb); clear BK251; clear BK252; clear HB; have BK251 := n0_; have BK252 := n1_; have HB := n2_; clear n0_ n1_ n2_; (try clear hb); (try clear hb2); (try clear hk); (try clear hi); obtain ⟨hcz128_0, hcz128_1, hcz128_2, hcz128_3, hcz128_4, hcz128_5, hcz128_6, hfz128_0, hfz128_1, hfz128_2, hfz128_3, hfz128_4, hfz128_5, hfz128_6⟩ := cz7_ (w := w127) BK251.out) | ((with_reducible refine gate_callee (f := 30) rfl ?_); refine goesL_ (some 41) rfl rfl Try.func30 (by kernel_rfl) rfl #[.agg #[.int .u64 a0_0, .int .u64 a0_1, .int .u64 a0_2, .int .u64 a0_3, .int .u64 a0_4, .slice A0_5 l0_5.length c0_5, .bool a0_6]] rfl (by (try simp only [List.map_toArray, List.map_cons, List.map_nil]); first | done | rfl | (simp only [List.length_drop, List.length_take]; rfl)) ?_; (with_reducible refine (channel_All.calls kj4 a0_0 a0_1 a0_2 a0_3 a0_4 _ _ l0_5 a0_6 t258 t259 _ ?side1 ?side2 A18.out).mono ?_); (case side1 => repeat (first | exact (Kd.C_below HR0_5.out HB.out) | (with_reducible refine Kd.C_alloc ?_ _) | (with_reducible refine Kd.C_drewN ?_ _) | (with_reducible refine Kd.C_drew ?_))); (case side2 => exact HC0_5.out); rintro e w129 ⟨rfl, hb⟩; refine ⟨_, rfl, ?_⟩; have n0_ := Aside0.mk (blk_below (g := gb251) (blkN BK251) hb); have n1_ := Aside0.mk (blk_below (g := gb252) (blkN BK252) hb); have n2_ := Aside0.mk (below_step (belN HB) hb); clear BK251; clear BK252; clear HB; have BK251 := n0_; have BK252 := n1_; have HB := n2_; clear n0_ n1_ n2_; (try clear hb); (try clear hb2); (try clear hk); (try clear hi); obtain ⟨hcz130_0, hcz130_1, hcz130_2, hcz130_3, hcz130_4, hcz130_5, hcz130_6, hfz130_0, hfz130_1, hfz130_2, hfz130_3, hfz130_4, hfz130_5, hfz130_6⟩ := cz7_ (w := w129) BK251.out) | ((with_reducible refine gate_callee (f := 31) rfl ?_); refine goesL_ (some 46) rfl rfl Try.func31 (by kernel_rfl) rfl #[.agg #[.int .u64 a0_0, .int .u64 a0_1, .int .u64 a0_2, .int .u64 a0_3, .int .u64 a0_4, .slice A0_5 l0_5.length c0_5, .bool a0_6]] rfl (by (try simp only [List.map_toArray, List.map_cons, List.map_nil]); first | done | rfl | (simp only [List.length_drop, List.length_take]; rfl)) ?_; (with_reducible refine (damsonref09_All.calls kj4 a0_0 a0_1 a0_2 a0_3 a0_4 _ _ l0_5 a0_6 t260 t261 _ ?side1 ?side2 A19.out).mono ?_); (case side1 => repeat (first | exact (Kd.C_below HR0_5.out HB.out) | (with_reducible refine Kd.C_alloc ?_ _) | (with_reducible refine Kd.C_drewN ?_ _) | (with_reducible refine Kd.C_drew ?_))); (case side2 => exact HC0_5.out); rintro e w131 ⟨rfl, hb⟩; refine ⟨_, rfl, ?_⟩; have n0_ := Aside0.mk (blk_below (g := gb251) (blkN BK251) hb); have n1_ := Aside0.mk (blk_below (g := gb252) (blkN BK252) hb); have n2_ := Aside0.mk (below_step (belN HB) hb); clear BK251; clear BK252; clear HB; have BK251 := n0_; have BK252 := n1_; have HB := n2_; clear n0_ n1_ n2_; (try clear hb); (try clear hb2); (try clear hk); (try clear hi); obtain ⟨hcz132_0, hcz132_1, hcz132_2, hcz132_3, hcz132_4, hcz132_5, hcz132_6, hfz132_0, hfz132_1, hfz132_2, hfz132_3, hfz132_4, hfz132_5, hfz132_6⟩ := cz7_ (w := w131) BK251.out) | ((with_reducible refine gate_callee (f := 22) rfl ?_); refine goesL_ (some 51) rfl rfl Try.func22 (by kernel_rfl) rfl #[.agg #[.int .u64 a0_0, .int .u64 a0_1, .int .u64 a0_2, .int .u64 a0_3, .int .u64 a0_4, .slice A0_5 l0_5.length c0_5, .bool a0_6]] rfl (by (try simp only [List.map_toArray, List.map_cons, List.map_nil]); first | done | rfl | (simp only [List.length_drop, List.length_take]; rfl)) ?_; (with_reducible refine (channel_Room.calls kj4 a0_0 a0_1 a0_2 a0_3 a0_4 _ _ l0_5 a0_6 t262 t263 _ ?side1 ?side2 A20.out).mono ?_); (case side1 => repeat (first | exact (Kd.C_below HR0_5.out HB.out) | (with_reducible refine Kd.C_alloc ?_ _) | (with_reducible refine Kd.C_drewN ?_ _) | (with_reducible refine Kd.C_drew ?_))); (case side2 => exact HC0_5.out); rintro e w133 ⟨rfl, hb⟩; refine ⟨_, rfl, ?_⟩; have n0_ := Aside0.mk (blk_below (g := gb251) (blkN BK251) hb); have n1_ := Aside0.mk (blk_below (g := gb252) (blkN BK252) hb); have n2_ := Aside0.mk (below_step (belN HB) hb); clear BK251; clear BK252; clear HB; have BK251 := n0_; have BK252 := n1_; have HB := n2_; clear n0_ n1_ n2_; (try clear hb); (try clear hb2); (try clear hk); (try clear hi); obtain ⟨hcz134_0, hcz134_1, hcz134_2, hcz134_3, hcz134_4, hcz134_5, hcz134_6, hfz134_0, hfz134_1, hfz134_2, hfz134_3, hfz134_4, hfz134_5, hfz134_6⟩ := cz7_ (w := w133) BK251.out) | ((with_reducible refine gate_callee (f := 32) rfl ?_); refine goesL_ (some 56) rfl rfl Try.func32 (by kernel_rfl) rfl #[.agg #[.int .u64 a0_0, .int .u64 a0_1, .int .u64 a0_2, .int .u64 a0_3, .int .u64 a0_4, .slice A0_5 l0_5.length c0_5, .bool a0_6]] rfl (by (try simp only [List.map_toArray, List.map_cons, List.map_nil]); first | done | rfl | (simp only [List.length_drop, List.length_take]; rfl)) ?_; (with_reducible refine (damsonref09_Room.calls kj4 a0_0 a0_1 a0_2 a0_3 a0_4 _ _ l0_5 a0_6 t264 t265 _ ?side1 ?side2 A21.out).mono ?_); (case side1 => repeat (first | exact (Kd.C_below HR0_5.out HB.out) | (with_reducible refine Kd.C_alloc ?_ _) | (with_reducible refine Kd.C_drewN ?_ _) | (with_reducible refine Kd.C_drew ?_))); (case side2 => exact HC0_5.out); rintro e w135 ⟨rfl, hb⟩; refine ⟨_, rfl, ?_⟩; have n0_ := Aside0.mk (blk_below (g := gb251) (blkN BK251) hb); have n1_ := Aside0.mk (blk_below (g := gb252) (blkN BK252) hb); have n2_ := Aside0.mk (below_step (belN HB) hb); clear BK251; clear BK252; clear HB; have BK251 := n0_; have BK252 := n1_; have HB := n2_; clear n0_ n1_ n2_; (try clear hb); (try clear hb2); (try clear hk); (try clear hi)))
              have n0_ := Aside0.mk (blk_drew BK251.out)
              have n1_ := Aside0.mk (blk_drew BK252.out)
              have n2_ := Aside0.mk (below_drew1 HB.out)
              clear BK251
              clear BK252
              clear HB
              have BK251 := n0_
              have BK252 := n1_
              have HB := n2_
              clear n0_ n1_ n2_
              refine start_ (n := 45) (S := fun w' => True) (ds := []) #[false, false, false, false, false, false, false, false, false, false, false, false, false, false, false, false, false, false, false, false, false, false, false, false, false, false, false, false, false, false, false, false, false, false, false, false, false, false, false, false, false, false, false, false, false] (by kernel_rfl) rfl rfl trivial (fun hHeld => ?_); refine with_tabW damsonlaw09_ChannelTells.tab11 damsonlaw09_ChannelTells.bits11 (fun HT_ HW_ => ?_)
              generalize w135.drew = w136 at BK251 BK252 HB hHeld ⊢
              refine pureA_ 0 59 (bm 45 1) ?_
              refine pureA_ 1 60 (bm 45 3) ?_
              refine pureA_ 2 61 (bm 45 7) ?_
              refine pureA_ 3 62 (bm 45 15) ?_
              refine pureA_ 4 63 (bm 45 31) ?_
              refine pureA_ 5 64 (bm 45 63) ?_
              refine pureA_ 6 65 (bm 45 127) ?_
              refine pureA_ 7 66 (bm 45 255) ?_
              refine pureA_ 8 67 (bm 45 511) ?_
              refine pureU_ 9 68 (bm 45 1023) ?_
              refine pureU_ 10 69 (bm 45 2047) ?_
              refine pureU_ 11 70 (bm 45 4095) ?_
              refine pureA_ 12 71 (bm 45 8191) ?_
              refine pureA_ 13 72 (bm 45 16383) ?_
              refine pureU_ 14 73 (bm 45 32767) ?_
              refine pureU_ 15 74 (bm 45 65535) ?_
              refine pureU_ 16 75 (bm 45 131071) ?_
              refine pureA_ 17 76 (bm 45 262143) ?_
              refine pureA_ 18 77 (bm 45 524287) ?_
              refine pureU_ 19 78 (bm 45 1048575) ?_
              refine pureU_ 20 79 (bm 45 2097151) ?_
              refine pureU_ 21 80 (bm 45 4194303) ?_
              refine pureA_ 22 81 (bm 45 8388607) ?_
              refine pureA_ 23 82 (bm 45 16777215) ?_
              refine pureU_ 24 83 (bm 45 33554431) ?_
              refine pureU_ 25 84 (bm 45 67108863) ?_
              refine pureU_ 26 85 (bm 45 134217727) ?_
              refine pureA_ 27 86 (bm 45 268435455) ?_
              refine pureA_ 28 87 (bm 45 536870911) ?_
              refine pureU_ 29 88 (bm 45 1073741823) ?_
              refine pureU_ 30 89 (bm 45 2147483647) ?_
              refine pureU_ 31 90 (bm 45 4294967295) ?_
              refine pureU_ 32 91 (bm 45 8589934591) ?_
              refine pureU_ 33 92 (bm 45 17179869183) ?_
              refine pureA_ 34 93 (bm 45 34359738367) ?_
              refine pureA_ 35 94 (bm 45 68719476735) ?_
              refine pureU_ 36 95 (bm 45 137438953471) ?_
              refine pureU_ 37 96 (bm 45 274877906943) ?_
              refine pureU_ 38 97 (bm 45 549755813887) ?_
              refine pureU_ 39 98 (bm 45 1099511627775) ?_
              refine pureU_ 40 99 (bm 45 2199023255551) ?_
              refine pureU_ 41 100 (bm 45 4398046511103) ?_
              refine pureU_ 42 101 (bm 45 8796093022207) ?_
              refine pureA_ 43 102 (bm 45 17592186044415) ?_
              refine pureA_ 44 4 (bm 45 35184372088831) ?_
              refine done_ (done_of HT_.out (by kernel_rfl)) ?_
              try go_wp2
              go_ret
              exact ⟨by first | rfl | (simp [errW_none, errW_some] <;> rfl) | (simp [*, errW_none, errW_some] <;> rfl), by repeat (first | (with_reducible first | exact HB.out | apply below_alloc | apply pw_below_drewN | apply below_drew1 | refine below_set ?_ GE251.out | refine below_set ?_ GE252.out) | exact HB.out)⟩
          · rw [if_neg c22] at H
            have c22b0 : (t254 == t256) = false := beq_eq_false_iff_ne.mpr c22
            have c22b1 : (t254 != t256) = true := bne_iff_ne.mpr c22
            obtain rfl := Option.some.inj H
            have hnb137 := NB251_252.out
            have hnc137 := NB252_251.out
            obtain ⟨hcz138_0, hcz138_1, hcz138_2, hcz138_3, hcz138_4, hcz138_5, hcz138_6, hfz138_0, hfz138_1, hfz138_2, hfz138_3, hfz138_4, hfz138_5, hfz138_6⟩ := cz7_ (w := wc) BK251.out
            try go_wp2_with (first | ((with_reducible refine gate_callee (f := 28) rfl ?_); refine goesL_ (some 31) rfl rfl Try.func28 (by kernel_rfl) rfl #[.agg #[.int .u64 a0_0, .int .u64 a0_1, .int .u64 a0_2, .int .u64 a0_3, .int .u64 a0_4, .slice A0_5 l0_5.length c0_5, .bool a0_6]] rfl (by (try simp only [List.map_toArray, List.map_cons, List.map_nil]); first | done | rfl | (simp only [List.length_drop, List.length_take]; rfl)) ?_; (with_reducible refine (channel_Held.calls kj4 a0_0 a0_1 a0_2 a0_3 a0_4 _ _ l0_5 a0_6 t254 t255 _ ?side1 ?side2 A16.out).mono ?_); (case side1 => repeat (first | exact (Kd.C_below HR0_5.out HB.out) | (with_reducible refine Kd.C_alloc ?_ _) | (with_reducible refine Kd.C_drewN ?_ _) | (with_reducible refine Kd.C_drew ?_))); (case side2 => exact HC0_5.out); rintro e w139 ⟨rfl, hb⟩; refine ⟨_, rfl, ?_⟩; have n0_ := Aside0.mk (blk_below (g := gb251) (blkN BK251) hb); have n1_ := Aside0.mk (blk_below (g := gb252) (blkN BK252) hb); have n2_ := Aside0.mk (below_step (belN HB) hb); clear BK251; clear BK252; clear HB; have BK251 := n0_; have BK252 := n1_; have HB := n2_; clear n0_ n1_ n2_; (try clear hb); (try clear hb2); (try clear hk); (try clear hi); obtain ⟨hcz140_0, hcz140_1, hcz140_2, hcz140_3, hcz140_4, hcz140_5, hcz140_6, hfz140_0, hfz140_1, hfz140_2, hfz140_3, hfz140_4, hfz140_5, hfz140_6⟩ := cz7_ (w := w139) BK251.out) | ((with_reducible refine gate_callee (f := 29) rfl ?_); refine goesL_ (some 36) rfl rfl Try.func29 (by kernel_rfl) rfl #[.agg #[.int .u64 a0_0, .int .u64 a0_1, .int .u64 a0_2, .int .u64 a0_3, .int .u64 a0_4, .slice A0_5 l0_5.length c0_5, .bool a0_6]] rfl (by (try simp only [List.map_toArray, List.map_cons, List.map_nil]); first | done | rfl | (simp only [List.length_drop, List.length_take]; rfl)) ?_; (with_reducible refine (damsonref09_Held.calls kj4 a0_0 a0_1 a0_2 a0_3 a0_4 _ _ l0_5 a0_6 t256 t257 _ ?side1 ?side2 A17.out).mono ?_); (case side1 => repeat (first | exact (Kd.C_below HR0_5.out HB.out) | (with_reducible refine Kd.C_alloc ?_ _) | (with_reducible refine Kd.C_drewN ?_ _) | (with_reducible refine Kd.C_drew ?_))); (case side2 => exact HC0_5.out); rintro e w141 ⟨rfl, hb⟩; refine ⟨_, rfl, ?_⟩; have n0_ := Aside0.mk (blk_below (g := gb251) (blkN BK251) hb); have n1_ := Aside0.mk (blk_below (g := gb252) (blkN BK252) hb); have n2_ := Aside0.mk (below_step (belN HB) hb); clear BK251; clear BK252; clear HB; have BK251 := n0_; have BK252 := n1_; have HB := n2_; clear n0_ n1_ n2_; (try clear hb); (try clear hb2); (try clear hk); (try clear hi); obtain ⟨hcz142_0, hcz142_1, hcz142_2, hcz142_3, hcz142_4, hcz142_5, hcz142_6, hfz142_0, hfz142_1, hfz142_2, hfz142_3, hfz142_4, hfz142_5, hfz142_6⟩ := cz7_ (w := w141) BK251.out) | ((with_reducible refine gate_callee (f := 30) rfl ?_); refine goesL_ (some 41) rfl rfl Try.func30 (by kernel_rfl) rfl #[.agg #[.int .u64 a0_0, .int .u64 a0_1, .int .u64 a0_2, .int .u64 a0_3, .int .u64 a0_4, .slice A0_5 l0_5.length c0_5, .bool a0_6]] rfl (by (try simp only [List.map_toArray, List.map_cons, List.map_nil]); first | done | rfl | (simp only [List.length_drop, List.length_take]; rfl)) ?_; (with_reducible refine (channel_All.calls kj4 a0_0 a0_1 a0_2 a0_3 a0_4 _ _ l0_5 a0_6 t258 t259 _ ?side1 ?side2 A18.out).mono ?_); (case side1 => repeat (first | exact (Kd.C_below HR0_5.out HB.out) | (with_reducible refine Kd.C_alloc ?_ _) | (with_reducible refine Kd.C_drewN ?_ _) | (with_reducible refine Kd.C_drew ?_))); (case side2 => exact HC0_5.out); rintro e w143 ⟨rfl, hb⟩; refine ⟨_, rfl, ?_⟩; have n0_ := Aside0.mk (blk_below (g := gb251) (blkN BK251) hb); have n1_ := Aside0.mk (blk_below (g := gb252) (blkN BK252) hb); have n2_ := Aside0.mk (below_step (belN HB) hb); clear BK251; clear BK252; clear HB; have BK251 := n0_; have BK252 := n1_; have HB := n2_; clear n0_ n1_ n2_; (try clear hb); (try clear hb2); (try clear hk); (try clear hi); obtain ⟨hcz144_0, hcz144_1, hcz144_2, hcz144_3, hcz144_4, hcz144_5, hcz144_6, hfz144_0, hfz144_1, hfz144_2, hfz144_3, hfz144_4, hfz144_5, hfz144_6⟩ := cz7_ (w := w143) BK251.out) | ((with_reducible refine gate_callee (f := 31) rfl ?_); refine goesL_ (some 46) rfl rfl Try.func31 (by kernel_rfl) rfl #[.agg #[.int .u64 a0_0, .int .u64 a0_1, .int .u64 a0_2, .int .u64 a0_3, .int .u64 a0_4, .slice A0_5 l0_5.length c0_5, .bool a0_6]] rfl (by (try simp only [List.map_toArray, List.map_cons, List.map_nil]); first | done | rfl | (simp only [List.length_drop, List.length_take]; rfl)) ?_; (with_reducible refine (damsonref09_All.calls kj4 a0_0 a0_1 a0_2 a0_3 a0_4 _ _ l0_5 a0_6 t260 t261 _ ?side1 ?side2 A19.out).mono ?_); (case side1 => repeat (first | exact (Kd.C_below HR0_5.out HB.out) | (with_reducible refine Kd.C_alloc ?_ _) | (with_reducible refine Kd.C_drewN ?_ _) | (with_reducible refine Kd.C_drew ?_))); (case side2 => exact HC0_5.out); rintro e w145 ⟨rfl, hb⟩; refine ⟨_, rfl, ?_⟩; have n0_ := Aside0.mk (blk_below (g := gb251) (blkN BK251) hb); have n1_ := Aside0.mk (blk_below (g := gb252) (blkN BK252) hb); have n2_ := Aside0.mk (below_step (belN HB) hb); clear BK251; clear BK252; clear HB; have BK251 := n0_; have BK252 := n1_; have HB := n2_; clear n0_ n1_ n2_; (try clear hb); (try clear hb2); (try clear hk); (try clear hi); obtain ⟨hcz146_0, hcz146_1, hcz146_2, hcz146_3, hcz146_4, hcz146_5, hcz146_6, hfz146_0, hfz146_1, hfz146_2, hfz146_3, hfz146_4, hfz146_5, hfz146_6⟩ := cz7_ (w := w145) BK251.out) | ((with_reducible refine gate_callee (f := 22) rfl ?_); refine goesL_ (some 51) rfl rfl Try.func22 (by kernel_rfl) rfl #[.agg #[.int .u64 a0_0, .int .u64 a0_1, .int .u64 a0_2, .int .u64 a0_3, .int .u64 a0_4, .slice A0_5 l0_5.length c0_5, .bool a0_6]] rfl (by (try simp only [List.map_toArray, List.map_cons, List.map_nil]); first | done | rfl | (simp only [List.length_drop, List.length_take]; rfl)) ?_; (with_reducible refine (channel_Room.calls kj4 a0_0 a0_1 a0_2 a0_3 a0_4 _ _ l0_5 a0_6 t262 t263 _ ?side1 ?side2 A20.out).mono ?_); (case side1 => repeat (first | exact (Kd.C_below HR0_5.out HB.out) | (with_reducible refine Kd.C_alloc ?_ _) | (with_reducible refine Kd.C_drewN ?_ _) | (with_reducible refine Kd.C_drew ?_))); (case side2 => exact HC0_5.out); rintro e w147 ⟨rfl, hb⟩; refine ⟨_, rfl, ?_⟩; have n0_ := Aside0.mk (blk_below (g := gb251) (blkN BK251) hb); have n1_ := Aside0.mk (blk_below (g := gb252) (blkN BK252) hb); have n2_ := Aside0.mk (below_step (belN HB) hb); clear BK251; clear BK252; clear HB; have BK251 := n0_; have BK252 := n1_; have HB := n2_; clear n0_ n1_ n2_; (try clear hb); (try clear hb2); (try clear hk); (try clear hi); obtain ⟨hcz148_0, hcz148_1, hcz148_2, hcz148_3, hcz148_4, hcz148_5, hcz148_6, hfz148_0, hfz148_1, hfz148_2, hfz148_3, hfz148_4, hfz148_5, hfz148_6⟩ := cz7_ (w := w147) BK251.out) | ((with_reducible refine gate_callee (f := 32) rfl ?_); refine goesL_ (some 56) rfl rfl Try.func32 (by kernel_rfl) rfl #[.agg #[.int .u64 a0_0, .int .u64 a0_1, .int .u64 a0_2, .int .u64 a0_3, .int .u64 a0_4, .slice A0_5 l0_5.length c0_5, .bool a0_6]] rfl (by (try simp only [List.map_toArray, List.map_cons, List.map_nil]); first | done | rfl | (simp only [List.length_drop, List.length_take]; rfl)) ?_; (with_reducible refine (damsonref09_Room.calls kj4 a0_0 a0_1 a0_2 a0_3 a0_4 _ _ l0_5 a0_6 t264 t265 _ ?side1 ?side2 A21.out).mono ?_); (case side1 => repeat (first | exact (Kd.C_below HR0_5.out HB.out) | (with_reducible refine Kd.C_alloc ?_ _) | (with_reducible refine Kd.C_drewN ?_ _) | (with_reducible refine Kd.C_drew ?_))); (case side2 => exact HC0_5.out); rintro e w149 ⟨rfl, hb⟩; refine ⟨_, rfl, ?_⟩; have n0_ := Aside0.mk (blk_below (g := gb251) (blkN BK251) hb); have n1_ := Aside0.mk (blk_below (g := gb252) (blkN BK252) hb); have n2_ := Aside0.mk (below_step (belN HB) hb); clear BK251; clear BK252; clear HB; have BK251 := n0_; have BK252 := n1_; have HB := n2_; clear n0_ n1_ n2_; (try clear hb); (try clear hb2); (try clear hk); (try clear hi)))
            have n0_ := Aside0.mk (blk_drew BK251.out)
            have n1_ := Aside0.mk (blk_drew BK252.out)
            have n2_ := Aside0.mk (below_drew1 HB.out)
            clear BK251
            clear BK252
            clear HB
            have BK251 := n0_
            have BK252 := n1_
            have HB := n2_
            clear n0_ n1_ n2_
            refine start_ (n := 45) (S := fun w' => True) (ds := []) #[false, false, false, false, false, false, false, false, false, false, false, false, false, false, false, false, false, false, false, false, false, false, false, false, false, false, false, false, false, false, false, false, false, false, false, false, false, false, false, false, false, false, false, false, false] (by kernel_rfl) rfl rfl trivial (fun hHeld => ?_); refine with_tabW damsonlaw09_ChannelTells.tab11 damsonlaw09_ChannelTells.bits11 (fun HT_ HW_ => ?_)
            generalize w149.drew = w150 at BK251 BK252 HB hHeld ⊢
            refine pureA_ 0 59 (bm 45 1) ?_
            refine pureA_ 1 60 (bm 45 3) ?_
            refine pureA_ 2 61 (bm 45 7) ?_
            refine pureA_ 3 62 (bm 45 15) ?_
            refine pureU_ 4 63 (bm 45 31) ?_
            refine pureU_ 5 64 (bm 45 63) ?_
            refine pureU_ 6 65 (bm 45 127) ?_
            refine pureA_ 7 66 (bm 45 255) ?_
            refine pureA_ 8 67 (bm 45 511) ?_
            refine pureU_ 9 68 (bm 45 1023) ?_
            refine pureU_ 10 69 (bm 45 2047) ?_
            refine pureU_ 11 70 (bm 45 4095) ?_
            refine pureA_ 12 71 (bm 45 8191) ?_
            refine pureA_ 13 72 (bm 45 16383) ?_
            refine pureU_ 14 73 (bm 45 32767) ?_
            refine pureU_ 15 74 (bm 45 65535) ?_
            refine pureU_ 16 75 (bm 45 131071) ?_
            refine pureA_ 17 76 (bm 45 262143) ?_
            refine pureA_ 18 77 (bm 45 524287) ?_
            refine pureU_ 19 78 (bm 45 1048575) ?_
            refine pureU_ 20 79 (bm 45 2097151) ?_
            refine pureU_ 21 80 (bm 45 4194303) ?_
            refine pureA_ 22 81 (bm 45 8388607) ?_
            refine pureA_ 23 82 (bm 45 16777215) ?_
            refine pureU_ 24 83 (bm 45 33554431) ?_
            refine pureU_ 25 84 (bm 45 67108863) ?_
            refine pureU_ 26 85 (bm 45 134217727) ?_
            refine pureA_ 27 86 (bm 45 268435455) ?_
            refine pureA_ 28 87 (bm 45 536870911) ?_
            refine pureU_ 29 88 (bm 45 1073741823) ?_
            refine pureU_ 30 89 (bm 45 2147483647) ?_
            refine pureU_ 31 90 (bm 45 4294967295) ?_
            refine pureU_ 32 91 (bm 45 8589934591) ?_
            refine pureU_ 33 92 (bm 45 17179869183) ?_
            refine pureA_ 34 93 (bm 45 34359738367) ?_
            refine pureA_ 35 94 (bm 45 68719476735) ?_
            refine pureU_ 36 95 (bm 45 137438953471) ?_
            refine pureU_ 37 96 (bm 45 274877906943) ?_
            refine pureU_ 38 97 (bm 45 549755813887) ?_
            refine pureU_ 39 98 (bm 45 1099511627775) ?_
            refine pureU_ 40 99 (bm 45 2199023255551) ?_
            refine pureU_ 41 100 (bm 45 4398046511103) ?_
            refine pureU_ 42 101 (bm 45 8796093022207) ?_
            refine pureA_ 43 102 (bm 45 17592186044415) ?_
            refine pureA_ 44 4 (bm 45 35184372088831) ?_
            refine done_ (done_of HT_.out (by kernel_rfl)) ?_
            try go_wp2
            go_ret
            exact ⟨by first | rfl | (simp [errW_none, errW_some] <;> rfl) | (simp [*, errW_none, errW_some] <;> rfl), by repeat (first | (with_reducible first | exact HB.out | apply below_alloc | apply pw_below_drewN | apply below_drew1 | refine below_set ?_ GE251.out | refine below_set ?_ GE252.out) | exact HB.out)⟩
  · replace c4 := Bool.eq_false_iff.mpr c4
    subst c4
    have H1 : (some false) = some r := by rw [if_neg (show ¬ (false = true) by decide)] at H; exact H
    clear H
    have H := H1
    clear H1
    obtain rfl := Option.some.inj H
    go_enter Try.func6, Try.ntmps6
    go_wp2_with (first | ((with_reducible refine gate_dst (N := 2) rfl ?_); (try (refine gate_guard (by rfl) ?_; dsimp only)); refine box_event ?hg (N := 2) ?hd (cs := #[.int .u64 a0_0, .int .u64 a0_1, .int .u64 a0_2, .int .u64 a0_3, .int .u64 a0_4, .slice A0_5 l0_5.length c0_5, .bool a0_6]) (t := 25) ?hr ?_; (case hd => rfl); (case hg => rfl); (case hr => first | (go_simp; done) | (go_simp; rfl)); intro gb251 hg w151 hbox hb; have n0_ := Aside0.mk (below_step (belN HB) hb); have n1_ := Aside0.mk (hbox); have n2_ := Aside0.mk ((by rw [hg]; exact (below_size (belN HB)) : w.heap.size ≤ gb251)); have n3_ := Aside0.mk ((by rw [hg]; exact (below_size (belN HB)) : w.heap.size ≤ gb251)); clear HB; have HB := n0_; have BK251 := n1_; have GW251 := n2_; have GE251 := n3_; clear n0_ n1_ n2_ n3_; clear hb hbox hg) | ((with_reducible refine gate_dst (N := 3) rfl ?_); (try (refine gate_guard (by rfl) ?_; dsimp only)); refine box_event ?hg (N := 3) ?hd (cs := #[.int .u64 a1_0, .int .u64 a1_1, .int .u64 a1_2, .int .u64 a1_3, .int .u64 a1_4, .slice A1_5 l1_5.length c1_5, .bool a1_6]) (t := 25) ?hr ?_; (case hd => rfl); (case hg => rfl); (case hr => first | (go_simp; done) | (go_simp; rfl)); intro gb252 hg w152 hbox hb; have n0_ := Aside0.mk (blk_below (g := gb251) (blkN BK251) hb); have n1_ := Aside0.mk (below_step (belN HB) hb); have n2_ := Aside0.mk (hbox); have n3_ := Aside0.mk ((by rw [hg]; exact (below_size (belN HB)) : w.heap.size ≤ gb252)); have n4_ := Aside0.mk ((by rw [hg]; exact (below_size (belN HB)) : w.heap.size ≤ gb252)); have n5_ := Aside0.mk ((by rw [hg]; exact Nat.ne_of_lt (blk_lt (g := gb251) (blkN BK251)) : gb251 ≠ gb252)); have n6_ := Aside0.mk ((by rw [hg]; exact Nat.ne_of_gt (blk_lt (g := gb251) (blkN BK251)) : gb252 ≠ gb251)); clear BK251; clear HB; have BK251 := n0_; have HB := n1_; have BK252 := n2_; have GW252 := n3_; have GE252 := n4_; have NB251_252 := n5_; have NB252_251 := n6_; clear n0_ n1_ n2_ n3_ n4_ n5_ n6_; clear hb hbox hg) | ((with_reducible refine gate_callee (f := 21) rfl ?_); refine goesL_ (some 17) rfl rfl Try.func21 (by kernel_rfl) rfl #[] rfl (by (try simp only [List.map_toArray, List.map_cons, List.map_nil]); first | done | rfl | (simp only [List.length_drop, List.length_take]; rfl)) ?_; (with_reducible refine (damsonlaw09_live.calls k  false _ A3.out).mono ?_); rintro e w153 ⟨rfl, hb⟩; refine ⟨_, rfl, ?_⟩; have n0_ := Aside0.mk (blk_below (g := gb251) (blkN BK251) hb); have n1_ := Aside0.mk (blk_below (g := gb252) (blkN BK252) hb); have n2_ := Aside0.mk (below_step (belN HB) hb); clear BK251; clear BK252; clear HB; have BK251 := n0_; have BK252 := n1_; have HB := n2_; clear n0_ n1_ n2_; (try clear hb); (try clear hb2); (try clear hk); (try clear hi)))
    go_ret
    exact ⟨by first | rfl | (simp [errW_none, errW_some] <;> rfl) | (simp [*, errW_none, errW_some] <;> rfl), by repeat (first | (with_reducible first | exact HB.out | apply below_alloc | apply pw_below_drewN | apply below_drew1 | refine below_set ?_ GE251.out | refine below_set ?_ GE252.out) | exact HB.out)⟩

/-- THE ONE PURE STATEMENT of damsonlaw09_ChannelTells: yours. -/
def damsonlaw09_ChannelTells.Pure : Prop := ∀ (s0 : S25) (s1 : S25), G25 s0 → G25 s1 → ∃ k, damsonlaw09_ChannelTells.f k (s0.f0) (s0.f1) (s0.f2) (s0.f3) (s0.f4) (s0.f5) (s0.f6) (s1.f0) (s1.f1) (s1.f2) (s1.f3) (s1.f4) (s1.f5) (s1.f6) = some true
theorem damsonlaw09_ChannelTells.walk (P : damsonlaw09_ChannelTells.Pure) (w : World) (s0 : S25) (A0_5 : Option Addr) (c0_5 : Nat) (hr0_5 : Kd.C k44 w A0_5 (s0.f5).length (s0.f5)) (hc0_5 : (s0.f5).length ≤ c0_5) (g0 : G25 s0) (s1 : S25) (A1_5 : Option Addr) (c1_5 : Nat) (hr1_5 : Kd.C k44 w A1_5 (s1.f5).length (s1.f5)) (hc1_5 : (s1.f5).length ≤ c1_5) (g1 : G25 s1) :
    Calls Try.prog 6 #[.agg #[.int .u64 (s0.f0), .int .u64 (s0.f1), .int .u64 (s0.f2), .int .u64 (s0.f3), .int .u64 (s0.f4), .slice A0_5 (s0.f5).length c0_5, .bool (s0.f6)], .agg #[.int .u64 (s1.f0), .int .u64 (s1.f1), .int .u64 (s1.f2), .int .u64 (s1.f3), .int .u64 (s1.f4), .slice A1_5 (s1.f5).length c1_5, .bool (s1.f6)]] w fun e w' => e = .returned (.bool true) ∧ Below w.heap.size w w' := by
  obtain ⟨k, h⟩ := P s0 s1 g0 g1
  refine (damsonlaw09_ChannelTells.calls k (s0.f0) (s0.f1) (s0.f2) (s0.f3) (s0.f4) A0_5 c0_5 (s0.f5) (s0.f6) (s1.f0) (s1.f1) (s1.f2) (s1.f3) (s1.f4) A1_5 c1_5 (s1.f5) (s1.f6) true w hr0_5 hc0_5 hr1_5 hc1_5 h).mono ?_
  rintro e w' ⟨rfl, hd⟩
  exact ⟨rfl, hd⟩

end Go.Proofs.Ytcfbcoinbecdfaa.P
