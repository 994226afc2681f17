-- written by a program of this session (wip/print)
import Derived.Test.YtmoncgfffdddeaaQIFirstx0
import Derived.Test.YtmoncgfffdddeaaQIFirstx1
namespace Go.Proofs.Ytmoncgfffdddeaa.P
open Go.RowKit Go.Proofs.YtmoncgfffdddeaaW.PrintWords Go.Proofs.YtmoncgfffdddeaaW.PrintLast Go.Proofs.YtmoncgfffdddeaaW.PrintMore
attribute [local go_sem] max2_int min2_int max_two min_two max_three min_three max_four min_four   -- for this text's walks alone
set_option linter.unusedVariables false
set_option linter.unusedSimpArgs false

/-! ### idem_own: function 26 -/
def idem_own.f (a0_0 : Int) (l0_1 : List Int) (l0_2 : List Int) (a0_3 : Int) : Option (Int × List Int × List Int × Int) := (slices_Clone_byte.f l0_1).bind fun t112 => ((slices_Clone_byte.f l0_2).bind fun t115 => (some (a0_0, t112, t115, a0_3)))
def idem_own.T1 : Bool × List (List Nat × List Nat) := (true, [([], []), ([0], [0]), ([1], [1]), ([], []), ([3], [3]), ([4, 2], [4]), ([0, 1, 2, 3, 4], []), ([6, 2, 5, 0, 1, 2, 3, 4], [2, 6]), ([0, 1, 2, 3, 4, 5, 6, 7], []), ([8, 5, 7, 0, 1, 2, 3, 4, 5, 6, 7], [5, 8])])
def idem_own.B1 : List Nat := [0, 1, 3, 0, 8, 31, 31, 127, 255, 511]
theorem idem_own.tab1 : rtab .any (opsOf Try.f26 1) = idem_own.T1 := by kernel_rfl
theorem idem_own.bits1 : waitsOk idem_own.T1.2 idem_own.B1 = true := by kernel_rfl
set_option maxHeartbeats 8000000 in
set_option maxRecDepth 100000 in
theorem idem_own.calls (a0_0 : Int) (A0_1 : Option Addr) (c0_1 : Nat) (l0_1 : List Int) (A0_2 : Option Addr) (c0_2 : Nat) (l0_2 : List Int) (a0_3 : Int) (r1 : Int) (r2 : List Int) (r3 : List Int) (r4 : Int) (w : World) (hr0_1 : Kd.C (Kd.int .u8) w A0_1 l0_1.length l0_1) (hc0_1 : l0_1.length ≤ c0_1) (hr0_2 : Kd.C (Kd.int .u8) w A0_2 l0_2.length l0_2) (hc0_2 : l0_2.length ≤ c0_2) (h : idem_own.f a0_0 l0_1 l0_2 a0_3 = some (r1, r2, r3, r4)) :
    Calls Try.prog 26 #[.agg #[.int .u64 a0_0, .slice A0_1 l0_1.length c0_1, .slice A0_2 l0_2.length c0_2, .int .u64 a0_3]] w fun e w' => ∃ v1_ v2_ : Value, e = .returned (.agg #[.int .u64 r1, v1_, v2_, .int .u64 r4]) ∧ Kd.R (Kd.int .u8) 5 w' w.heap.size (fun k_ => some k_ ≠ (v2_ : Value).ownBlock) v1_ r2 ∧ Kd.R (Kd.int .u8) 5 w' w.heap.size (fun k_ => some k_ ≠ (v1_ : Value).ownBlock) v2_ r3 ∧ Below w.heap.size w w' := by
  have hu26 := Try.underlying26
  have HR0_1 := Aside0.mk hr0_1
  have HC0_1 := Aside0.mk hc0_1
  clear hr0_1 hc0_1
  have HR0_2 := Aside0.mk hr0_2
  have HC0_2 := Aside0.mk hc0_2
  clear hr0_2 hc0_2
  have HB := Aside0.mk (Below.refl w.heap.size w)
  have H : ((slices_Clone_byte.f l0_1).bind fun t112 => ((slices_Clone_byte.f l0_2).bind fun t115 => (some (a0_0, t112, t115, a0_3)))) = some (r1, r2, r3, r4) := h
  clear h
  replace H := Option.bind_eq_some_iff.mp H
  obtain ⟨t112, A20, H⟩ := H
  replace H : ((slices_Clone_byte.f l0_2).bind fun t115 => (some (a0_0, t112, t115, a0_3))) = some (r1, r2, r3, r4) := H
  have A2 := Aside0.mk A20
  clear A20
  replace H := Option.bind_eq_some_iff.mp H
  obtain ⟨t115, A30, H⟩ := H
  replace H : (some (a0_0, t112, t115, a0_3)) = some (r1, r2, r3, r4) := H
  have A3 := Aside0.mk A30
  clear A30
  simp only [Option.some.injEq, Prod.mk.injEq] at H
  obtain ⟨rfl, rfl, rfl, rfl⟩ := H
  go_enter Try.func26, Try.ntmps26
  try go_wp2_with (first | ((with_reducible refine gate_dst (N := 1) rfl ?_); refine box_event ?hg (N := 1) ?hd (cs := #[.int .u64 a0_0, .slice A0_1 l0_1.length c0_1, .slice A0_2 l0_2.length c0_2, .int .u64 a0_3]) (t := 26) ?hr ?_; (case hd => rfl); (case hg => rfl); (case hr => first | (go_simp; done) | (go_simp; rfl)); intro gb110 hg w4 hbox hb; have n0_ := Aside0.mk (below_step (belN HB) hb); have n1_ := Aside0.mk (hbox); have n2_ := Aside0.mk ((by rw [hg]; exact (below_size (belN HB)) : w.heap.size ≤ gb110)); have n3_ := Aside0.mk ((by rw [hg]; exact (below_size (belN HB)) : w.heap.size ≤ gb110)); clear HB; have HB := n0_; have BK110 := n1_; have GW110 := n2_; have GE110 := n3_; clear n0_ n1_ n2_ n3_; clear hb hbox hg) | ((with_reducible refine gate_dst (N := 2) rfl ?_); refine box_event ?hg (N := 2) ?hd (cs := #[.int .u64 0, .slice none 0 0, .slice none 0 0, .int .u64 0]) (t := 26) ?hr ?_; (case hd => rfl); (case hg => rfl); (case hr => first | (go_simp; done) | (go_simp; rfl)); intro gb111 hg w5 hbox hb; have n0_ := Aside0.mk (blk_below (g := gb110) (blkN BK110) hb); have n1_ := Aside0.mk (below_step (belN HB) hb); have n2_ := Aside0.mk (hbox); have n3_ := Aside0.mk ((by rw [hg]; exact (below_size (belN HB)) : w.heap.size ≤ gb111)); have n4_ := Aside0.mk ((by rw [hg]; exact (below_size (belN HB)) : w.heap.size ≤ gb111)); have n5_ := Aside0.mk ((by rw [hg]; exact Nat.ne_of_lt (blk_lt (g := gb110) (blkN BK110)) : gb110 ≠ gb111)); have n6_ := Aside0.mk ((by rw [hg]; exact Nat.ne_of_gt (blk_lt (g := gb110) (blkN BK110)) : gb111 ≠ gb110)); clear BK110; clear HB; have BK110 := n0_; have HB := n1_; have BK111 := n2_; have GW111 := n3_; have GE111 := n4_; have NB110_111 := n5_; have NB111_110 := n6_; clear n0_ n1_ n2_ n3_ n4_ n5_ n6_; clear hb hbox hg))
  have n0_ := Aside0.mk (blk_drew BK110.out)
  have n1_ := Aside0.mk (blk_drew BK111.out)
  have n2_ := Aside0.mk (below_drew1 HB.out)
  clear BK110
  clear BK111
  clear HB
  have BK110 := n0_
  have BK111 := n1_
  have HB := n2_
  clear n0_ n1_ n2_
  refine start_ (n := 10) (S := fun w' => w'.cell? ⟨gb110, 0, none⟩ = some (.int .u64 a0_0) ∧ w'.cell? ⟨gb110, 1, none⟩ = some (.slice A0_1 l0_1.length c0_1) ∧ w'.cell? ⟨gb110, 2, none⟩ = some (.slice A0_2 l0_2.length c0_2) ∧ w'.cell? ⟨gb110, 3, none⟩ = some (.int .u64 a0_3)) (ds := [7, 9]) #[false, false, false, false, false, false, false, false, false, false] (by kernel_rfl) rfl rfl ⟨(blk_cell BK110.out 0).trans rfl, (blk_cell BK110.out 1).trans rfl, (blk_cell BK110.out 2).trans rfl, (blk_cell BK110.out 3).trans rfl⟩ (fun hHeld => ?_); refine with_tabW idem_own.tab1 idem_own.bits1 (fun HT_ HW_ => ?_)
  generalize w5.drew = w6 at BK110 BK111 HB hHeld ⊢
  refine pureA_ 0 3 (bm 10 1) ?_
  refine pureA_ 3 6 (bm 10 9) ?_
  refine take_ (i := 1) (N := some 4) (v := ?_) (a' := ?_) #[true, true, false, true, false, false, false, false, false, false] rfl rfl (take_ofW HT_.out HW_.out (by kernel_rfl)) (fun _ _ _ h => h) (Or.inl ⟨by rfl, ?_⟩) hHeld ?_ ?_
  rotate_left
  · rintro w' ⟨s0, s1, s2, s3⟩
    go_simp
    with_reducible rfl
  rotate_left
  · simp only [Act.put, List.setIfInBounds_toArray, List.set_cons_zero, List.set_cons_succ, i64_w, i32_w]
    rfl
  refine take_ (i := 4) (N := some 7) (v := ?_) (a' := ?_) #[true, true, false, true, true, false, false, false, false, false] rfl rfl (take_ofW HT_.out HW_.out (by kernel_rfl)) (fun _ _ _ h => h) (Or.inl ⟨by rfl, ?_⟩) hHeld ?_ ?_
  rotate_left
  · rintro w' ⟨s0, s1, s2, s3⟩
    go_simp
    with_reducible rfl
  rotate_left
  · simp only [Act.put, List.setIfInBounds_toArray, List.set_cons_zero, List.set_cons_succ, i64_w, i32_w]
    rfl
  refine one_ (i := 2) (N := some 5) #[true, true, true, true, true, false, false, false, false, false] rfl rfl (one_of HT_.out (by kernel_rfl)) (by decide) (fun K hK => ?_)
  refine goes_ Try.func36 (by kernel_rfl) rfl #[.slice A0_1 l0_1.length c0_1] (by rfl) rfl rfl (by (try simp only [List.map_toArray, List.map_cons, List.map_nil]); first | done | rfl | (simp only [List.length_drop, List.length_take]; rfl)) ?_
  with_reducible refine (slices_Clone_byte.calls _ _ l0_1 t112 _ ?side1 ?side2 A2.out).mono ?_
  (case side1 => repeat (first | exact (Kd.C_below HR0_1.out HB.out) | (with_reducible refine Kd.C_alloc ?_ _) | (with_reducible refine Kd.C_drewN ?_ _) | (with_reducible refine Kd.C_drew ?_)))
  (case side2 => exact HC0_1.out)
  rintro e w7 ⟨v113, rfl, ho0, hb⟩
  refine ⟨_, rfl, ?_⟩
  have n0_ := Aside0.mk (Kd.R_lower ho0 (below_size (belN HB)))
  have n1_ := Aside0.mk (blk_below (g := gb110) (blkN BK110) hb)
  have n2_ := Aside0.mk (blk_below (g := gb111) (blkN BK111) hb)
  have n3_ := Aside0.mk (below_step (belN HB) hb)
  clear BK110
  clear BK111
  clear HB
  have HO114 := n0_
  have BK110 := n1_
  have BK111 := n2_
  have HB := n3_
  clear n0_ n1_ n2_ n3_
  (try clear hb)
  (try clear hb2)
  (try clear hk)
  (try clear hi)
  (try clear ho0)
  refine hK.out _ _ ⟨(blk_cell BK110.out 0).trans rfl, (blk_cell BK110.out 1).trans rfl, (blk_cell BK110.out 2).trans rfl, (blk_cell BK110.out 3).trans rfl⟩ (fun hHeld => ?_)
  clear hK K
  refine norm_ (a' := ?_) ?_ ?_
  rotate_left
  · show Act.put _ (some 5) _ = _
    simp only [Act.put, List.setIfInBounds_toArray, List.set_cons_zero, List.set_cons_succ, i64_w, i32_w]
    rfl
  refine pureA_ 6 9 (bm 10 95) ?_
  refine one_ (i := 5) (N := some 8) #[true, true, true, true, true, true, true, false, false, false] rfl rfl (one_of HT_.out (by kernel_rfl)) (by decide) (fun K hK => ?_)
  refine goes_ Try.func36 (by kernel_rfl) rfl #[.slice A0_2 l0_2.length c0_2] (by rfl) rfl rfl (by (try simp only [List.map_toArray, List.map_cons, List.map_nil]); first | done | rfl | (simp only [List.length_drop, List.length_take]; rfl)) ?_
  with_reducible refine (slices_Clone_byte.calls _ _ l0_2 t115 _ ?side1 ?side2 A3.out).mono ?_
  (case side1 => repeat (first | exact (Kd.C_below HR0_2.out HB.out) | (with_reducible refine Kd.C_alloc ?_ _) | (with_reducible refine Kd.C_drewN ?_ _) | (with_reducible refine Kd.C_drew ?_)))
  (case side2 => exact HC0_2.out)
  rintro e w8 ⟨v116, rfl, ho0, hb⟩
  refine ⟨_, rfl, ?_⟩
  have n0_ := Aside0.mk (Kd.R_elder' (Kd.RN HO114) (Kd.R_base ho0) hb)
  have n1_ := Aside0.mk (Kd.R_lower (Kd.R_new' ho0 (Kd.R_lt (Kd.RN HO114))) (below_size (belN HB)))
  have n2_ := Aside0.mk (blk_below (g := gb110) (blkN BK110) hb)
  have n3_ := Aside0.mk (blk_below (g := gb111) (blkN BK111) hb)
  have n4_ := Aside0.mk (below_step (belN HB) hb)
  clear HO114
  clear BK110
  clear BK111
  clear HB
  have HO114 := n0_
  have HO117 := n1_
  have BK110 := n2_
  have BK111 := n3_
  have HB := n4_
  clear n0_ n1_ n2_ n3_ n4_
  (try clear hb)
  (try clear hb2)
  (try clear hk)
  (try clear hi)
  (try clear ho0)
  obtain ⟨Ao9, co9, eo9⟩ := Kd.R_slice HO114.out
  (first | subst eo9 | (injection eo9 with f1_ f2_ f3_; have f4_ := f1_.symm; have f5_ := f3_.symm; clear f1_ f2_ f3_; subst f4_; subst f5_))
  obtain ⟨Ao11, co11, eo11⟩ := Kd.R_slice HO117.out
  (first | subst eo11 | (injection eo11 with f1_ f2_ f3_; have f4_ := f1_.symm; have f5_ := f3_.symm; clear f1_ f2_ f3_; subst f4_; subst f5_))
  refine hK.out _ _ ⟨(blk_cell BK110.out 0).trans rfl, (blk_cell BK110.out 1).trans rfl, (blk_cell BK110.out 2).trans rfl, (blk_cell BK110.out 3).trans rfl⟩ (fun hHeld => ?_)
  clear hK K
  refine norm_ (a' := ?_) ?_ ?_
  rotate_left
  · show Act.put _ (some 8) _ = _
    simp only [Act.put, List.setIfInBounds_toArray, List.set_cons_zero, List.set_cons_succ, i64_w, i32_w]
    rfl
  refine last_ (i := 7) (N := none) #[true, true, true, true, true, true, true, true, false, false] rfl rfl (one_of HT_.out (by kernel_rfl)) (by decide) (fun K hK => ?_)
  have hs10 : w8.cell? ⟨gb110, 1, none⟩ = some (.slice A0_1 l0_1.length c0_1) := (blk_cell BK110.out 1).trans rfl
  have hfs10 := blk_frozen BK110.out 1
  have hns10_1 := NB111_110.out
  have hms10_1 := NB110_111.out
  refine skip_ (w1 := ?_) (by rfl) rfl ?_ ?_
  rotate_left
  · go_simp
    rfl
  refine hK.out _ _ ?_
  clear hK K
  refine pureA_ 8 10 (bm 10 511) ?_
  refine last_ (i := 9) (N := none) #[true, true, true, true, true, true, true, true, true, true] rfl rfl (one_of HT_.out (by kernel_rfl)) (by decide) (fun K hK => ?_)
  have hs12 : w8.cell? ⟨gb110, 2, none⟩ = some (.slice A0_2 l0_2.length c0_2) := (blk_cell BK110.out 2).trans rfl
  have hfs12 := blk_frozen BK110.out 2
  have hns12_1 := NB111_110.out
  have hms12_1 := NB110_111.out
  refine skip_ (w1 := ?_) (by rfl) rfl ?_ ?_
  rotate_left
  · go_simp
    rfl
  refine hK.out _ _ ?_
  clear hK K
  refine done_ (done_of HT_.out (by kernel_rfl)) ?_
  have hnb13 := NB110_111.out
  have hnc13 := NB111_110.out
  obtain ⟨hcz14_0, hcz14_1, hcz14_2, hcz14_3, hfz14_0, hfz14_1, hfz14_2, hfz14_3⟩ := cz4_ (w := w8) BK110.out
  obtain ⟨hcz15_0, hcz15_1, hcz15_2, hcz15_3, hfz15_0, hfz15_1, hfz15_2, hfz15_3⟩ := cz4_ (w := w8) BK111.out
  try go_wp2_with (first | ((with_reducible refine gate_store (t := 26) (p := 2) rfl ?_); refine store_event (t := 26) (p := 2) (v := ?vo_w16) (w1 := ((((((w8.setCell ⟨gb110, 1, none⟩ (.slice Ao9 t112.length co9)).setCell ⟨gb110, 2, none⟩ (.slice Ao11 t115.length co11)).setCell ⟨gb111, 0, none⟩ (.int .u64 a0_0)).setCell ⟨gb111, 1, none⟩ (.slice Ao9 t112.length co9)).setCell ⟨gb111, 2, none⟩ (.slice Ao11 t115.length co11)).setCell ⟨gb111, 3, none⟩ (.int .u64 a0_3))) ?hg ?ho ?hn ?hr ?_; (case ho => rfl); (case hg => rfl); (case hn => rfl); (case hr => first | (go_simp; done) | (go_simp; rfl)); intro w16 hw; have n0_ : Aside0 (Kd.R (Kd.int .u8) 5 w16 w.heap.size (fun k_ => some k_ ≠ (.slice Ao11 t115.length co11 : Value).ownBlock) (.slice Ao9 t112.length co9) t112) := ⟨(by rw [hw]; exact (by (with_reducible repeat (first | apply Kd.R_alloc | apply Kd.R_drewN | apply Kd.R_drew)); exact Kd.R_mono (Kd.R_far (p := ⟨gb111, 3, none⟩) (Kd.R_far (p := ⟨gb111, 2, none⟩) (Kd.R_far (p := ⟨gb111, 1, none⟩) (Kd.R_far (p := ⟨gb111, 0, none⟩) (Kd.R_far (p := ⟨gb110, 2, none⟩) (Kd.R_far (p := ⟨gb110, 1, none⟩) (Kd.R_types (Kd.R_types HO114.out BK110.out (by decide)) BK111.out (by decide)) (fun _ hk => hk.1.2) (.slice Ao9 t112.length co9)) (fun _ hk => hk.1.2) (.slice Ao11 t115.length co11)) (fun _ hk => hk.2) (.int .u64 a0_0)) (fun _ hk => hk.2) (.slice Ao9 t112.length co9)) (fun _ hk => hk.2) (.slice Ao11 t115.length co11)) (fun _ hk => hk.2) (.int .u64 a0_3)) (fun _ hk => hk.1.1.2)))⟩; have n1_ : Aside0 (Kd.R (Kd.int .u8) 5 w16 w.heap.size (fun k_ => some k_ ≠ (.slice Ao9 t112.length co9 : Value).ownBlock) (.slice Ao11 t115.length co11) t115) := ⟨(by rw [hw]; exact (by (with_reducible repeat (first | apply Kd.R_alloc | apply Kd.R_drewN | apply Kd.R_drew)); exact Kd.R_mono (Kd.R_far (p := ⟨gb111, 3, none⟩) (Kd.R_far (p := ⟨gb111, 2, none⟩) (Kd.R_far (p := ⟨gb111, 1, none⟩) (Kd.R_far (p := ⟨gb111, 0, none⟩) (Kd.R_far (p := ⟨gb110, 2, none⟩) (Kd.R_far (p := ⟨gb110, 1, none⟩) (Kd.R_types (Kd.R_types HO117.out BK110.out (by decide)) BK111.out (by decide)) (fun _ hk => hk.1.2) (.slice Ao9 t112.length co9)) (fun _ hk => hk.1.2) (.slice Ao11 t115.length co11)) (fun _ hk => hk.2) (.int .u64 a0_0)) (fun _ hk => hk.2) (.slice Ao9 t112.length co9)) (fun _ hk => hk.2) (.slice Ao11 t115.length co11)) (fun _ hk => hk.2) (.int .u64 a0_3)) (fun _ hk => hk.1.1.2)))⟩; have n2_ : Aside0 (w16.heap[gb110]? = some (.cells #[.int .u64 a0_0, .slice Ao9 t112.length co9, .slice Ao11 t115.length co11, .int .u64 a0_3] 26 (0, 0))) := ⟨(by rw [hw]; exact (by (with_reducible repeat (first | refine blk_drewN ?_ _ | refine blk_drew ?_ | refine blk_alloc ?_ _)); refine blk_far ?_ NB110_111.out _; (with_reducible repeat (first | refine blk_drewN ?_ _ | refine blk_drew ?_ | refine blk_alloc ?_ _)); refine blk_far ?_ NB110_111.out _; (with_reducible repeat (first | refine blk_drewN ?_ _ | refine blk_drew ?_ | refine blk_alloc ?_ _)); refine blk_far ?_ NB110_111.out _; (with_reducible repeat (first | refine blk_drewN ?_ _ | refine blk_drew ?_ | refine blk_alloc ?_ _)); refine blk_far ?_ NB110_111.out _; (with_reducible repeat (first | refine blk_drewN ?_ _ | refine blk_drew ?_ | refine blk_alloc ?_ _)); refine blk_put (cs := #[.int .u64 a0_0, .slice Ao9 t112.length co9, .slice A0_2 l0_2.length c0_2, .int .u64 a0_3]) ?_ 2 _ rfl; refine blk_put (cs := #[.int .u64 a0_0, .slice A0_1 l0_1.length c0_1, .slice A0_2 l0_2.length c0_2, .int .u64 a0_3]) ?_ 1 _ rfl; (with_reducible repeat (first | refine blk_drewN ?_ _ | refine blk_drew ?_ | refine blk_alloc ?_ _)); exact BK110.out))⟩; have n3_ : Aside0 (w16.heap[gb111]? = some (.cells #[.int .u64 a0_0, .slice Ao9 t112.length co9, .slice Ao11 t115.length co11, .int .u64 a0_3] 26 (0, 0))) := ⟨(by rw [hw]; exact (by (with_reducible repeat (first | refine blk_drewN ?_ _ | refine blk_drew ?_ | refine blk_alloc ?_ _)); refine blk_put (cs := #[.int .u64 a0_0, .slice Ao9 t112.length co9, .slice Ao11 t115.length co11, .int .u64 0]) ?_ 3 _ rfl; refine blk_put (cs := #[.int .u64 a0_0, .slice Ao9 t112.length co9, .slice none 0 0, .int .u64 0]) ?_ 2 _ rfl; refine blk_put (cs := #[.int .u64 a0_0, .slice none 0 0, .slice none 0 0, .int .u64 0]) ?_ 1 _ rfl; refine blk_put (cs := #[.int .u64 0, .slice none 0 0, .slice none 0 0, .int .u64 0]) ?_ 0 _ rfl; (with_reducible repeat (first | refine blk_drewN ?_ _ | refine blk_drew ?_ | refine blk_alloc ?_ _)); refine blk_far ?_ NB111_110.out _; (with_reducible repeat (first | refine blk_drewN ?_ _ | refine blk_drew ?_ | refine blk_alloc ?_ _)); refine blk_far ?_ NB111_110.out _; (with_reducible repeat (first | refine blk_drewN ?_ _ | refine blk_drew ?_ | refine blk_alloc ?_ _)); exact BK111.out))⟩; have n4_ : Aside0 (Below w.heap.size w w16) := ⟨(by rw [hw]; exact (belN HB))⟩; clear hw; clear HO114; clear HO117; clear BK110; clear BK111; clear HB; have HO114 := n0_; have HO117 := n1_; have BK110 := n2_; have BK111 := n3_; have HB := n4_; clear n0_ n1_ n2_ n3_ n4_))
  refine bodyPost_ret (results_cell_row rfl _ _ gb111 26 #[.int .u64 a0_0, .slice Ao9 t112.length co9, .slice Ao11 t115.length co11, .int .u64 a0_3] (0, 0) _ rfl (blkN BK111) Try.underlying26 rfl (by kernel_rfl)) rfl ?_
  exact ⟨_, _, by first | rfl | (simp [errW_none, errW_some] <;> rfl) | (simp [*, errW_none, errW_some] <;> rfl), by (with_reducible repeat (first | apply Kd.R_alloc | apply Kd.R_drewN | apply Kd.R_drew)); exact HO114.out, by (with_reducible repeat (first | apply Kd.R_alloc | apply Kd.R_drewN | apply Kd.R_drew)); exact HO117.out, by repeat (first | (with_reducible first | exact HB.out | apply below_alloc | apply pw_below_drewN | apply below_drew1 | refine below_set ?_ GE110.out | refine below_set ?_ GE111.out) | exact HB.out)⟩

-- NOT PRINTED: function 27 (idem_kept)

/-! ### idem_Sweep: function 12 (by hand) -/
section
variable {P : Program} {ops : Array Oper} {Q : Exit → Act → World → Prop} {l n : Nat}
theorem rowsIn_wide_ {row : String} {args : Array Value} {w : World} {R : Value → World → Prop} (h : Rows P row args w R) : RowsIn (Fence.wide.inRound l) n P row args w R := by
  intro c cs _
  obtain ⟨v, w', r, s⟩ := h c cs
  exact ⟨v, w', r, stepsIn_wide.2 s⟩
theorem oper_in_ {o : Oper} {a : Act} {w : World} {K : Act → World → Prop} (hd : ∀ c, o.op ≠ .defer c) (h : o.wp P a w K Q) : o.wpIn (Fence.wide.inRound l) n P a w K Q := by
  unfold Oper.wpIn
  refine ⟨fun _ _ => trivial, ?_⟩
  rw [show (Fence.wide.inRound l).round = some l from rfl, Oper.semAt_some l _ _ hd]
  unfold Oper.wp at h
  generalize (execOp a.eval o).run P w = r at *
  cases r with
  | ok x w' =>
    cases x <;> simp only [Oper.upon, Oper.uponIn] at h ⊢ <;>
      first
        | exact h
        | exact ⟨(fun e => by cases e), CallsIn.inRound l (callsIn_wide.2 h)⟩
        | exact ⟨(fun e => by cases e), rowsIn_wide_ h⟩
  | halt x w' => cases x <;> simp only [Oper.upon, Oper.uponIn] at h ⊢ <;> exact h
theorem any_in_ {md : Region.Mode} (hl : ¬ LetsOut Q) (hd : ∀ (j : Nat) (o : Oper), ops[j]? = some o → ∀ c, o.op ≠ .defer c) : ∀ (fuel : Nat) (listed : Array Bool) (a : Act) (w : World), wpAny P md ops Q fuel listed a w → wpAnyIn (Fence.wide.inRound l) n P md ops Q fuel listed a w
  | 0, _, _, _, h => h
  | fuel + 1, listed, a, w, h => by
    refine ⟨h.1, fun i hi => ?_⟩
    have h1 := h.2 i hi
    unfold wpOp at h1
    unfold wpOpIn
    cases ho : ops[i]? with
    | none => rw [ho] at h1; exact any_in_ hl hd fuel _ _ _ h1
    | some o =>
      rw [ho] at h1
      simp only at h1 ⊢
      split
      · rename_i hw
        rw [if_pos hw] at h1
        exact Oper.wpIn_mono (fun a w h => any_in_ hl hd fuel _ _ _ h) (oper_in_ (hd i o ho) (h1.resolve_right (fun h => hl h.2)))
      · rename_i hw
        rw [if_neg hw] at h1
        exact ⟨fun _ _ => trivial, any_in_ hl hd fuel _ _ _ h1⟩
/-- A region that draws, in a round: walked as outside of one. -/
theorem region_in_ {id : Nat} {a : Act} {w : World} (hm : P.follows .mixedOrders = true) (hl : ¬ LetsOut Q) (hd : ∀ (j : Nat) (o : Oper), ops[j]? = some o → ∀ c, o.op ≠ .defer c)
    (h : wpAny P .any ops Q ops.size (Array.replicate ops.size false) a { w with drawn := w.drawn + 1 }) : (Code.region id ops true).wpIn (Fence.wide.inRound l) n P Q a w :=
  wpIn_region_any hm (any_in_ hl hd _ _ _ _ h)
end
/-- An element of a row that came in, with the cells that it has in w. -/
structure El (w : World) where
  x : S26
  A1 : Option Addr
  c1 : Nat
  A2 : Option Addr
  c2 : Nat
  l1 : x.f1.length ≤ c1
  r1 : (Kd.int .u8).C w A1 x.f1.length x.f1
  l2 : x.f2.length ≤ c2
  r2 : (Kd.int .u8).C w A2 x.f2.length x.f2
  bd : x.f1.length < 140737488355328 ∧ x.f2.length < 140737488355328
def El.val {w : World} (p : El w) : Value := .agg #[.int .u64 p.x.f0, .slice p.A1 p.x.f1.length p.c1, .slice p.A2 p.x.f2.length p.c2, .int .u64 p.x.f3]
/-- Element j lies there. -/
def El.at_ {w : World} (W : World) (ad : Addr) (j : Nat) (p : El w) : Prop :=
  W.cell? (ad.add (j * 4)) = some (.int .u64 p.x.f0) ∧ W.cell? ⟨(ad.add (j * 4)).block, (ad.add (j * 4)).off + 1, none⟩ = some (.slice p.A1 p.x.f1.length p.c1) ∧
  W.cell? ⟨(ad.add (j * 4)).block, (ad.add (j * 4)).off + 2, none⟩ = some (.slice p.A2 p.x.f2.length p.c2) ∧ W.cell? ⟨(ad.add (j * 4)).block, (ad.add (j * 4)).off + 3, none⟩ = some (.int .u64 p.x.f3)
theorem El.at_below {w W W' : World} (h : Below w.heap.size W W') {ad : Addr} {j : Nat} {p : El w} (hb : ad.block < w.heap.size) (hp : El.at_ W ad j p) : El.at_ W' ad j p := by
  obtain ⟨h0, h1, h2, h3⟩ := hp
  have hq : (ad.add (j * 4)).block < w.heap.size := by rw [add_block]; exact hb
  exact ⟨(h.cell hq).trans h0, (h.cell (p := ⟨(ad.add (j * 4)).block, (ad.add (j * 4)).off + 1, none⟩) hq).trans h1, (h.cell (p := ⟨(ad.add (j * 4)).block, (ad.add (j * 4)).off + 2, none⟩) hq).trans h2, (h.cell (p := ⟨(ad.add (j * 4)).block, (ad.add (j * 4)).off + 3, none⟩) hq).trans h3⟩
theorem els_of {w : World} {ad : Addr} {xs : List S26} (h : Kd.C k26 w (some ad) xs.length xs) (hin : ∀ x ∈ xs, x.f1.length < 140737488355328 ∧ x.f2.length < 140737488355328) : ∀ n, n ≤ xs.length → ∃ es : List (El w), es.length = n ∧ es.map El.x = xs.take n ∧ ∀ j p, es[j]? = some p → El.at_ w ad j p
  | 0, _ => ⟨[], rfl, by simp, by simp⟩
  | n + 1, hn => by
    obtain ⟨es, h1, h2, h3⟩ := els_of h hin n (by omega)
    obtain ⟨ad', A1, c1, A2, c2, e, q0, q1, q2, q3, l1, r1, l2, r2⟩ := at_T26 h (n : Int) (by omega) (by omega)
    injection e with e
    subst e
    rw [Int.toNat_natCast] at q0 q1 q2 q3
    have hbd := hin (rd_T26 xs n) (by simp [rd_T26, List.getD_eq_getElem?_getD, List.getElem?_eq_getElem (show n < xs.length by omega)])
    refine ⟨es ++ [⟨rd_T26 xs n, A1, c1, A2, c2, l1, r1, l2, r2, hbd⟩], by simp [h1], ?_, fun j p hj => ?_⟩
    · rw [List.map_append, h2, List.take_succ_eq_append_getElem (by omega)]
      simp [rd_T26, List.getD_eq_getElem?_getD, List.getElem?_eq_getElem (show n < xs.length by omega)]
    · rcases Nat.lt_or_ge j n with hlt | hge
      · rw [List.getElem?_append_left (by omega)] at hj; exact h3 j p hj
      · have hjn : j = n := by
          have := (List.getElem?_eq_some_iff.1 hj).1
          simp [h1] at this
          omega
        subst hjn
        rw [List.getElem?_append_right (by omega), h1] at hj
        have : (⟨rd_T26 xs j, A1, c1, A2, c2, l1, r1, l2, r2, hbd⟩ : El w) = p := by simpa using hj
        rw [← this]
        exact ⟨q0, q1, q2, q3⟩
attribute [local go_sem] Oper.semAt_some
def keepv {w : World} (tick : Int) (p : El w) : Bool := decide (tick ≤ p.x.f3)
/-- What a round keeps: all that lay, and the box B. -/
def KpB (B n₀ : Nat) (W W' : World) : Prop := Below n₀ W W' ∧ W'.heap[B]? = W.heap[B]?
theorem KpB.cell {B n₀ : Nat} {W W' : World} (h : KpB B n₀ W W') : W'.cell? ⟨B, 0, none⟩ = W.cell? ⟨B, 0, none⟩ := by simp [World.cell?, h.2]
set_option maxRecDepth 100000 in
set_option maxHeartbeats 2000000 in
theorem kept1_in (n : Nat) (hn : 1 ≤ n) (l B1 B2 : Nat) (w : World) (ad : Addr) (cap : Nat) (tick : Int) (es : List (El w)) (hel : es.length ≤ 140737488351232) (had : ad.block < w.heap.size) (J Jx : List (El w) → World → Prop)
    (hY : ∀ pre x W, J pre W → pre.length < es.length → YieldAt Fence.wide (n - 1) Try.prog l #[El.val x] W fun e W' =>
      (e = .returned (.bool true) ∧ J (pre ++ [x]) W' ∧ KpB B2 w.heap.size W W') ∨ (e = .returned (.bool false) ∧ Jx (pre ++ [x]) W'))
    (hJ : ∀ pre W o, J pre W → J pre (W.alloc o))
    (W : World) (h1 : W.cell? ⟨B1, 0, none⟩ = some (.slice (some ad) es.length cap)) (h2 : W.cell? ⟨B2, 0, none⟩ = some (.int .u64 tick)) (hm : w.heap.size ≤ W.heap.size) (hB2 : B2 < W.heap.size) (hat : ∀ j p, es[j]? = some p → El.at_ W ad j p) (h0 : J [] W) :
    CallsIn Fence.wide n Try.prog 37 #[.func (.yield l) #[] #[], .pointer (some ⟨B1, 0, none⟩), .pointer (some ⟨B2, 0, none⟩)] W fun e W' => (∃ v, e = .returned v) ∧
      ((∃ ys, ys = es.filter (keepv tick) ∧ J ys W') ∨ (∃ pre, pre <+: es.filter (keepv tick) ∧ Jx pre W')) := by
  refine callsIn_of_wp Try.func37 rfl trivial ?_ rfl
  simp only [Try.ntmps37, List.size_toArray, List.length_cons, List.length_nil, Nat.reduceAdd, Nat.reduceSub, Array.replicate_succ, Array.replicate_zero, List.push_toArray, List.append_toArray, List.nil_append, List.cons_append]
  gi_wp2
  gi_loopw [8] (fun i wr => ∃ k : Nat, k ≤ es.length ∧ i = .int .i64 k ∧ J ((es.take k).filter (keepv tick)) wr ∧ Aside0 (Below w.heap.size W wr) ∧ wr.cell? ⟨B2, 0, none⟩ = some (.int .u64 tick)) (fun i _ => es.length - (intOf i).toNat)
  case atStart => exact ⟨0, Nat.zero_le _, rfl, h0, ⟨Below.refl _ _⟩, h2⟩
  case round =>
    obtain ⟨k, hk, rfl, hJs, hnx, hb2⟩ := hrel
    by_cases hlt : k < es.length
    · obtain ⟨p, hp⟩ : ∃ p, p = es[k] := ⟨_, rfl⟩
      obtain ⟨q0, q1, q2, q3⟩ : El.at_ wr ad k p := by rw [hp]; exact El.at_below (w := w) hnx.out had (hat k _ (List.getElem?_eq_getElem hlt))
      have hsz : w.heap.size ≤ wr.heap.size := Nat.le_trans hm hnx.out.size
      have hlb : B2 < wr.heap.size := Nat.lt_of_lt_of_le hB2 hnx.out.size
      have hb3 : (wr.alloc (.cells #[.int .u64 p.x.f0, .slice p.A1 p.x.f1.length p.c1, .slice p.A2 p.x.f2.length p.c2, .int .u64 p.x.f3] 26)).cell? ⟨B2, 0, none⟩ = some (.int .u64 tick) := by
        rw [← hb2]
        exact ((Below.refl wr.heap.size wr).alloc (Nat.le_refl _) _).cell (p := ⟨B2, 0, none⟩) hlb
      have htk : es.take (k + 1) = es.take k ++ [p] := by rw [List.take_succ_eq_append_getElem hlt, hp]
      have hnx1 := Aside0.mk (hnx.out.alloc hsz (.cells #[.int .u64 p.x.f0, .slice p.A1 p.x.f1.length p.c1, .slice p.A2 p.x.f2.length p.c2, .int .u64 p.x.f3] 26))
      have hJ1 := hJ _ _ (.cells #[.int .u64 p.x.f0, .slice p.A1 p.x.f1.length p.c1, .slice p.A2 p.x.f2.length p.c2, .int .u64 p.x.f3] 26) hJs
      have hpl : ((es.take k).filter (keepv tick)).length < es.length := Nat.lt_of_le_of_lt (List.length_filter_le _ _) (by rw [List.length_take]; omega)
      clear hsz hm hlb
      by_cases hc : tick ≤ p.x.f3
      · obtain ⟨fn, tmps, assign, body, hy, hR⟩ := hY _ p _ hJ1 hpl
        have hcb : decide (tick ≤ p.x.f3) = true := decide_eq_true hc
        have HT := Aside0.mk (show (es.take (k + 1)).filter (keepv tick) = (es.take k).filter (keepv tick) ++ [p] by rw [htk, List.filter_append]; simp [keepv, hc])
        clear hJ1 htk hc hp hY
        simp only [El.val] at hy
        gi_wp2
        refine hR.mono ?_
        rintro e W3 (⟨rfl, hJ3, hk3⟩ | ⟨rfl, hJx3⟩)
        · have hk4 := Aside0.mk (hnx1.out.trans hk3.1)
          have hk5 := Aside0.mk (hk3.cell.trans hb3)
          clear hk3
          gi_wp2
          go_roundw
          case rel => exact ⟨k + 1, by omega, by go_num, by rw [HT.out]; exact hJ3, hk4, hk5.out⟩
          case measure => simp [intOf]; omega
        · gi_wp2
          refine bodyPost_ret (results_none rfl _ _ _) rfl ?_
          exact ⟨⟨_, rfl⟩, .inr ⟨_, by rw [← HT.out]; exact (List.take_prefix _ _).filter _, hJx3⟩⟩
      · have hcb : decide (tick ≤ p.x.f3) = false := decide_eq_false hc
        have HT := Aside0.mk (show (es.take (k + 1)).filter (keepv tick) = (es.take k).filter (keepv tick) by rw [htk, List.filter_append]; simp [keepv, hc])
        clear htk hc hp hY
        gi_wp2
        refine ⟨(fun _ h => (by cases h)), ?_⟩
        gi_wp2
        go_roundw
        case rel => exact ⟨k + 1, by omega, by go_num, by rw [HT.out]; exact hJ1, hnx1, hb3⟩
        case measure => simp [intOf]; omega
    · obtain rfl : k = es.length := by omega
      have HT := Aside0.mk (show (es.take es.length).filter (keepv tick) = es.filter (keepv tick) by rw [List.take_length])
      gi_wp2
      go_end0
      exact ⟨⟨_, rfl⟩, .inl ⟨_, HT.out, hJs⟩⟩
set_option maxHeartbeats 1000000 in
theorem kept1_nil_in (n : Nat) (l B1 B2 : Nat) (J : World → Prop) (W : World) (A : Option Addr) (c : Nat) (h1 : W.cell? ⟨B1, 0, none⟩ = some (.slice A 0 c)) (h0 : J W) :
    CallsIn Fence.wide n Try.prog 37 #[.func (.yield l) #[] #[], .pointer (some ⟨B1, 0, none⟩), .pointer (some ⟨B2, 0, none⟩)] W fun e W' => (∃ v, e = .returned v) ∧ J W' := by
  refine callsIn_of_wp Try.func37 rfl trivial ?_ rfl
  simp only [Try.ntmps37, List.size_toArray, List.length_cons, List.length_nil, Nat.reduceAdd, Nat.reduceSub, Array.replicate_succ, Array.replicate_zero, List.push_toArray, List.append_toArray, List.nil_append, List.cons_append]
  gi_wp2
  gi_loopw [8] (fun i wr => i = .int .i64 0 ∧ J wr) (fun _ _ => 0)
  case atStart => exact ⟨rfl, h0⟩
  case round =>
    obtain ⟨rfl, hJs⟩ := hrel
    gi_wp2
    go_end0
    exact ⟨⟨_, rfl⟩, hJs⟩
set_option maxHeartbeats 1000000 in
theorem kept_in (n : Nat) (A : Option Addr) (len cap : Nat) (tick : Int) (w : World) :
    CallsIn Fence.wide n Try.prog 27 #[.slice A len cap, .int .u64 tick] w fun e w' => e = .returned (.func (.func 37) #[] #[.pointer (some ⟨w.heap.size, 0, none⟩), .pointer (some ⟨w.heap.size + 1, 0, none⟩)]) ∧ w' = (w.alloc (.cells #[.slice A len cap] 22)).alloc (.cells #[.int .u64 tick] 23) := by
  refine callsIn_of_wp Try.func27 rfl trivial ?_ rfl
  simp only [Try.ntmps27, List.size_toArray, List.length_cons, List.length_nil, Nat.reduceAdd, Nat.reduceSub, Array.replicate_succ, Array.replicate_zero, List.push_toArray, List.append_toArray, List.nil_append, List.cons_append]
  gi_wp2
  go_ret
  exact ⟨rfl, rfl⟩
attribute [local go_sem] Oper.semAt_some
theorem kept_stops (n : Nat) (hn : 1 ≤ n) (B1 B2 : Nat) (w : World) (A : Option Addr) (cap : Nat) (tick : Int) (es : List (El w)) (hel : es.length ≤ 140737488351232) (W0 : World) (hA : es = [] ∨ ∃ ad, A = some ad ∧ ad.block < w.heap.size ∧ ∀ j p, es[j]? = some p → El.at_ W0 ad j p)
    (hm : w.heap.size ≤ W0.heap.size) (hB1 : B1 < W0.heap.size) (hB2 : B2 < W0.heap.size) (h1 : W0.cell? ⟨B1, 0, none⟩ = some (.slice A es.length cap)) (h2 : W0.cell? ⟨B2, 0, none⟩ = some (.int .u64 tick)) :
    SeqStopsK Fence.wide n Try.prog 37 #[.pointer (some ⟨B1, 0, none⟩), .pointer (some ⟨B2, 0, none⟩)] (fun x : El w => #[El.val x]) (KpB B2 w.heap.size) (fun ys => ys = es.filter (keepv tick)) (fun pre => pre <+: es.filter (keepv tick)) es.length W0 := fun l J Jx W hW hJ _ hY h0 => by
  have h1' := (hW.cell (p := ⟨B1, 0, none⟩) hB1).trans h1
  have h2' := (hW.cell (p := ⟨B2, 0, none⟩) hB2).trans h2
  rcases hA with rfl | ⟨ad, rfl, had, hat⟩
  · exact (kept1_nil_in n l B1 B2 (J []) W A cap h1' h0).mono fun e W' ⟨he, hj⟩ => ⟨he, .inl ⟨_, rfl, hj⟩⟩
  · exact kept1_in n hn l B1 B2 w ad cap tick es hel had J Jx hY (fun pre W o h => hJ pre W _ none h (World.grownBy_alloc W o none) (fun r e => by cases e)) W h1' h2' (Nat.le_trans hm hW.size) (Nat.lt_of_lt_of_le hB2 hW.size) (fun j p hj => El.at_below (w := w) (hW.mono hm) had (hat j p hj)) h0
def idem_Sweep.f (k : Nat) (l0 : List (S26)) (a1 : Int) : Option ((List (S26)) × Int) := (idem_Check.f k l0).bind fun t0 => (if t0 = 0 then (if l0.length < 2199023255552 ∧ ∀ x ∈ l0, x.f1.length < 140737488355328 ∧ x.f2.length < 140737488355328 then (some (l0.filter (fun x => decide (a1 ≤ x.f3)), 0)) else (none)) else (some (([] : List (S26)), t0)))
theorem idem_Sweep.mono : ∀ a0 a1 k, LeO (idem_Sweep.f k a0 a1) (idem_Sweep.f (k + 1) a0 a1) := by
  intro a0 a1 k
  unfold idem_Sweep.f
  exact LeO.bind (idem_Check.mono _ _) (fun _ => LeO.refl _)
theorem S_own {B n₀ t : Nat} : ∀ {base : Nat}, OwnFrom n₀ (fun (pre : List S26) (W : World) => (∃ v, Boxed W B t v ∧ Kd.S k26 26 W base (fun k => k ≠ B) v pre)) := by
  intro base pre X Y row ⟨v, hv, hS⟩ hg hr
  refine ⟨v, hv.kept hg (fun e => ?_), ?_⟩
  · obtain ⟨_, o, ho, hc⟩ := hr _ e.symm
    rw [show X.heap[B]? = _ from hv] at ho
    cases ho
    cases hc
  · refine Kd.S_mono (Kd.S_step (Kd.S_bound hS) (fun k hk hlt => hg.block k hlt (fun e => ?_))) (fun k hk => hk.1)
    obtain ⟨_, o, ho, hc⟩ := hr k e.symm
    obtain ⟨_, _, _, q, _, cells, hq⟩ := hk
    rw [hq] at ho
    cases ho
    cases hc
theorem startIn_ {P : Program} {ops : Array Oper} {Q : Exit → Act → World → Prop} {S : World → Prop} {ds : List Nat} {l m : Nat} {id n : Nat} {a : Act} {w : World} (L : Array Bool) (hm : P.follows .mixedOrders = true) (hl : ¬ LetsOut Q) (hd : ∀ (j : Nat) (o : Oper), ops[j]? = some o → ∀ c, o.op ≠ .defer c) (hn : ops.size = n) (hL : Array.replicate n false = L) (hS : S w.drew)
    (h : S w.drew → wpAnyLast P .any ops Q S ds n L a w.drew) : (Code.region id ops true).wpIn (Fence.wide.inRound l) m P Q a w := by
  subst hn
  subst hL
  exact region_in_ hm hl hd (wpAny_of_last _ _ _ _ (h hS))
def sw6T : Bool × List (List Nat × List Nat) := (true, [([], []), ([], []), ([1], [1]), ([2], [2]), ([0, 3, 2], [0, 3]), ([4, 4, 0, 1, 2, 3, 4], [4])])
def sw6B : List Nat := [0, 0, 2, 6, 15, 31]
theorem sw6tab : rtab .any (opsOf Try.f12 6) = sw6T := by kernel_rfl
theorem sw6bits : waitsOk sw6T.2 sw6B = true := by kernel_rfl
theorem noDefer_ {ops : Array Oper} (h : ops.all (fun o => match o.op with | .defer _ => false | _ => true) = true) : ∀ (j : Nat) (o : Oper), ops[j]? = some o → ∀ c, o.op ≠ .defer c := by
  intro j o hj c hc
  obtain ⟨hlt, e⟩ := Array.getElem?_eq_some_iff.1 hj
  have := (Array.all_eq_true.1 h) j hlt
  rw [e, hc] at this
  cases this
set_option maxRecDepth 100000 in
set_option maxHeartbeats 4000000 in
theorem sweep_in (A0 : Option Addr) (c0 : Nat) (l0 : List (S26)) (a1 : Int) (k : Nat) (w : World) (hr0 : Kd.C k26 w A0 l0.length l0) (hc0 : l0.length ≤ c0) (hck : idem_Check.f k l0 = some 0) (hlen : l0.length < 2199023255552) (hin : ∀ x ∈ l0, x.f1.length < 140737488355328 ∧ x.f2.length < 140737488355328) :
    CallsIn Fence.wide 6 Try.prog 12 #[.slice A0 l0.length c0, .int .u64 a1] w fun e w' => ∃ v0_ : Value, e = .returned (.tuple #[v0_, .int .i64 0]) ∧ Kd.S k26 26 w' w.heap.size (fun _ => True) v0_ (l0.filter (fun x => decide (a1 ≤ x.f3))) ∧ Below w.heap.size w w' := by
  have HB1 := Aside0.mk ((Below.refl w.heap.size w).alloc (Nat.le_refl _) (.cells #[.slice none 0 0] 22))
  have HR1 := Aside0.mk (Kd.C_alloc hr0 (.cells #[.slice none 0 0] 22))
  have HX1 := Aside0.mk (Boxed.new w 22 (.slice none 0 0))
  have HC0 := Aside0.mk hc0
  have HCK := Aside0.mk hck
  have HIN := Aside0.mk hin
  have HR0 := Aside0.mk hr0
  clear hr0 hc0 hck hin
  refine callsIn_of_wp_marks Try.func12 rfl trivial ?_ rfl
  simp only [Try.ntmps12, List.size_toArray, List.length_cons, List.length_nil, Nat.reduceAdd, Nat.reduceSub, Array.replicate_succ, Array.replicate_zero, List.push_toArray, List.append_toArray, List.nil_append, List.cons_append]
  gi_wp2_with (first | (refine ⟨trivial, ?_⟩; gi_at_call 20; refine (callsIn_wide.2 (idem_Check.calls k A0 c0 l0 0 _ HR1.out HC0.out HCK.out)).mono ?_; rintro e w2 ⟨rfl, hbel⟩; have HB2 := Aside0.mk (below_then HB1.out (by simp) hbel); have HX2 := Aside0.mk (show Boxed w2 w.heap.size 22 (.slice none 0 0) from (hbel.block _ HX1.out.lt).trans HX1.out); clear hbel) | (refine ⟨trivial, ?_⟩; gi_at_call 27; refine (kept_in 5 A0 l0.length c0 a1 _).mono ?_; rintro e w3 ⟨rfl, rfl⟩))
  obtain ⟨es, hesl, hesx, hA⟩ : ∃ es : List (El w), es.length = l0.length ∧ es.map El.x = l0 ∧ (es = [] ∨ ∃ ad, A0 = some ad ∧ ad.block < w.heap.size ∧ ∀ j p, es[j]? = some p → El.at_ w ad j p) := by
    rcases Nat.eq_zero_or_pos l0.length with h0 | h0
    · obtain rfl : l0 = [] := List.eq_nil_of_length_eq_zero h0
      exact ⟨[], rfl, rfl, .inl rfl⟩
    · obtain ⟨ad, A1, c1, A2, c2, e, q0, _⟩ := at_T26 HR0.out 0 (by omega) (by omega)
      subst e
      obtain ⟨es, e1, e2, e3⟩ := els_of HR0.out HIN.out l0.length (Nat.le_refl _)
      have hlt := World.block_lt_of_cell? w _ q0
      rw [add_block] at hlt
      exact ⟨es, e1, by rw [e2, List.take_length], .inr ⟨ad, rfl, hlt, e3⟩⟩
  rw [← hesl]
  obtain ⟨W0, hW0⟩ : ∃ W0, W0 = (w2.alloc (.cells #[.slice A0 es.length c0] 22)).alloc (.cells #[.int .u64 a1] 23) := ⟨_, rfl⟩
  have hsz : W0.heap.size = w2.heap.size + 2 := by rw [hW0]; simp
  have hw2 := HB2.out.size
  have hbx := HX2.out.lt
  have HBW := Aside0.mk (show Below w.heap.size w W0 by rw [hW0]; exact (HB2.out.alloc hw2 _).alloc (by simp; omega) _)
  have HXW := Aside0.mk (show Boxed W0 w.heap.size 22 (.slice none 0 0) by rw [hW0]; exact (HX2.out.alloc _).alloc _)
  have HXB := Aside0.mk (show Boxed W0 (w2.heap.size + 1) 23 (.int .u64 a1) by
    rw [hW0]
    have := Boxed.new (w2.alloc (.cells #[.slice A0 es.length c0] 22)) 23 (.int .u64 a1)
    rwa [World.size_alloc] at this)
  have HEL := Aside0.mk hesl
  have HEX := Aside0.mk hesx
  have hel : es.length ≤ 140737488351232 := by omega
  have hel2 : es.length < 2199023255552 := by omega
  have hs1 : w2.heap.size + 2 ≤ W0.heap.size := by omega
  rw [← hW0]
  have HW0 := Aside0.mk hW0
  clear hesl hesx hW0 hsz
  refine wpIn_rangeFunc_ownH (α := El w) rfl (by decide) (gf := 37) (lb := #[.pointer (some ⟨w2.heap.size, 0, none⟩), .pointer (some ⟨w2.heap.size + 1, 0, none⟩)]) rfl trivial (enters_of Try.func37 (by kernel_rfl) rfl)
    (kept_stops 5 (by decide) w2.heap.size (w2.heap.size + 1) w A0 c0 a1 es hel W0 ?hA ?hm ?hB1 ?hB2 ?h1 ?h2) ?hKt ?hKb (Below.refl _ _) (fun _ => rfl)
    (fun pre W => (∃ v, Boxed W w.heap.size 22 v ∧ Kd.S k26 26 W w.heap.size (fun k => k ≠ w.heap.size) v (pre.map El.x)) ∧ Below w.heap.size w W ∧ W0.heap.size ≤ W.heap.size ∧ Boxed W (w2.heap.size + 1) 23 (.int .u64 a1))
    (fun _ _ _ => False)
    (OwnFrom.and (fun pre X Y row h => S_own (pre.map El.x) X Y row h) (OwnFrom.and (ownFrom_below (Nat.le_refl _) HBW.out.size) (OwnFrom.and (fun _ _ _ _ h hg _ => Nat.le_trans h hg.size) (Own.from (boxed_own _ _ (fun _ => .int .u64 a1)) _))))
    (fun _ _ _ _ _ hs _ _ => hs)
    ⟨⟨_, HXW.out, Kd.S_nil _ _ _ _ _⟩, HBW.out, Nat.le_refl _, HXB.out⟩
    (fun x a' W => ∃ BX, W0.heap.size ≤ BX ∧ W.heap[BX]? = some (.cells #[.int .u64 x.x.f0, .slice x.A1 x.x.f1.length x.c1, .slice x.A2 x.x.f2.length x.c2, .int .u64 x.x.f3] 26 (0, 0)) ∧ a' = { tmps := #[.slice A0 es.length c0, .int .u64 a1, undef, undef, .pointer (some ⟨w.heap.size, 0, none⟩), .int .i64 0, .int .i64 0, .pointer (some ⟨BX, 0, none⟩), .slice A0 es.length c0, .int .i64 0, .int .i64 0, .bool false, undef, .slice A0 es.length c0, .int .u64 a1, .func (.func 37) #[] #[.pointer (some ⟨w2.heap.size, 0, none⟩), .pointer (some ⟨w2.heap.size + 1, 0, none⟩)], El.val x, undef, undef, undef, undef, undef, undef], defers := [] })
    ?hAx ?assign ?body ?done ?stop
  case hA =>
    rcases hA with hA | ⟨ad, e1, e2, e3⟩
    · exact .inl hA
    · exact .inr ⟨ad, e1, e2, fun j p hj => El.at_below (w := w) HBW.out e2 (e3 j p hj)⟩
  case hm => omega
  case hB1 => omega
  case hB2 => omega
  case h1 =>
    rw [HW0.out]
    exact ((Boxed.new w2 22 (.slice A0 es.length c0)).alloc _).cell
  case h2 =>
    rw [HW0.out]
    have := (Boxed.new (w2.alloc (.cells #[.slice A0 es.length c0] 22)) 23 (.int .u64 a1)).cell
    rwa [World.size_alloc] at this
  case hKt => exact fun h h' => ⟨h.1.trans h'.1, h'.2.trans h.2⟩
  case hKb => exact fun W l o o' hl h h1 h2 => ⟨belowK_b (w := W0) HBW.out.size W l o o' hl h h1 h2, World.putObj_heap_other (by omega)⟩
  case hAx =>
    rintro x a' _ X Y row ⟨BX, h1, h2, h3⟩ hg hr
    refine ⟨BX, h1, (hg.block BX (blk_lt h2) (fun e => ?_)).trans h2, h3⟩
    obtain ⟨_, o, ho, hc⟩ := hr _ e.symm
    rw [h2] at ho
    cases ho
    cases hc
  case assign =>
    rintro l pre x W K ⟨⟨v, hv, hS⟩, hB, hz, hb2⟩ hK
    simp only [El.val]
    gi_wp2
    exact hK _ _ ((KeepsOthers.alloc _ _).from _) ⟨(Below.refl _ W).alloc hB.size _, Below.heap_alloc _ _ _ (by omega)⟩ ⟨⟨v, hv.alloc _, Kd.S_alloc hS _⟩, hB.alloc hB.size _, by simp; omega, hb2.alloc _⟩ ⟨W.heap.size, hz, World.alloc_heap_new W _, rfl⟩
  case body =>
    rintro l pre x a' W hl ⟨r, hr⟩ ⟨⟨v, hv, hS⟩, hB, hz, hb2⟩ ⟨BX, hBX, bX, rfl⟩ hlt
    obtain ⟨Av, cv, he⟩ := Kd.S_slice hS
    generalize hmm : (List.map El.x pre).length = m at he
    have HM := Aside0.mk hmm
    clear hmm
    subst he
    simp only [El.val]
    gi_wp2
    refine startIn_ (n := 6) (S := fun W' => W'.cell? ⟨w.heap.size, 0, none⟩ = some (.slice Av m cv) ∧ W'.cell? ⟨BX, 0, none⟩ = some (.int .u64 x.x.f0) ∧ W'.cell? ⟨BX, 1, none⟩ = some (.slice x.A1 x.x.f1.length x.c1) ∧ W'.cell? ⟨BX, 2, none⟩ = some (.slice x.A2 x.x.f2.length x.c2) ∧ W'.cell? ⟨BX, 3, none⟩ = some (.int .u64 x.x.f3)) (ds := [4, 5]) #[false, false, false, false, false, false] (by kernel_rfl) (by rintro ⟨_, _, h⟩; exact h) (noDefer_ (by kernel_rfl)) rfl rfl ⟨hv.cell, (blk_cell bX 0).trans rfl, (blk_cell bX 1).trans rfl, (blk_cell bX 2).trans rfl, (blk_cell bX 3).trans rfl⟩ (fun hHeld => ?_)
    refine with_tabW sw6tab sw6bits (fun HT_ HW_ => ?_)
    refine take_ (i := 0) (N := some 17) (v := ?_) (a' := ?_) #[true, false, false, false, false, false] rfl rfl (take_ofW HT_.out HW_.out (by kernel_rfl)) (fun _ _ _ h => h) (Or.inl ⟨by rfl, ?_⟩) hHeld ?_ ?_
    rotate_left
    · rintro w' ⟨s0, s1, s2, s3, s4⟩
      go_simp
      with_reducible rfl
    rotate_left
    · simp only [Act.put, List.setIfInBounds_toArray, List.set_cons_zero, List.set_cons_succ, i64_w, i32_w]
      rfl
    refine take_ (i := 1) (N := some 18) (v := ?_) (a' := ?_) #[true, true, false, false, false, false] rfl rfl (take_ofW HT_.out HW_.out (by kernel_rfl)) (fun _ _ _ h => h) (Or.inl ⟨by rfl, ?_⟩) hHeld ?_ ?_
    rotate_left
    · rintro w' ⟨s0, s1, s2, s3, s4⟩
      go_simp
      with_reducible rfl
    rotate_left
    · simp only [Act.put, List.setIfInBounds_toArray, List.set_cons_zero, List.set_cons_succ, i64_w, i32_w]
      rfl
    have hown : idem_own.f x.x.f0 x.x.f1 x.x.f2 x.x.f3 = some (x.x.f0, x.x.f1, x.x.f2, x.x.f3) := by
      unfold idem_own.f slices_Clone_byte.f
      rw [if_pos x.bd.1, if_pos x.bd.2]
      rfl
    have hBd : Below w.heap.size w W.drew := hB.drew
    refine one_ (i := 2) (N := some 19) #[true, true, true, false, false, false] rfl rfl (one_of HT_.out (by kernel_rfl)) (by decide) (fun K hK => ?_)
    refine goes_ Try.func26 (by kernel_rfl) rfl #[.agg #[.int .u64 x.x.f0, .slice x.A1 x.x.f1.length x.c1, .slice x.A2 x.x.f2.length x.c2, .int .u64 x.x.f3]] (by rfl) rfl rfl (by (try simp only [List.map_toArray, List.map_cons, List.map_nil]); first | done | rfl) ?_
    refine (idem_own.calls _ _ _ _ _ _ _ _ _ _ _ _ _ (Kd.C_below x.r1 hBd) x.l1 (Kd.C_below x.r2 hBd) x.l2 hown).mono ?_
    rintro e w4 ⟨v1, v2, rfl, ho1, ho2, hb4⟩
    refine ⟨_, rfl, ?_⟩
    have hcell : ∀ (b o : Nat), b < W.heap.size → w4.cell? ⟨b, o, none⟩ = W.cell? ⟨b, o, none⟩ := fun b o hb => hb4.cell (p := ⟨b, o, none⟩) hb
    have hlx := blk_lt bX
    have hlb := hv.lt
    refine hK.out _ _ ⟨(hcell _ _ hlb).trans hHeld.1, (hcell _ _ hlx).trans hHeld.2.1, (hcell _ _ hlx).trans hHeld.2.2.1, (hcell _ _ hlx).trans hHeld.2.2.2.1, (hcell _ _ hlx).trans hHeld.2.2.2.2⟩ (fun hHeld => ?_)
    clear hK K
    refine norm_ (a' := ?_) ?_ ?_
    rotate_left
    · show Act.put _ (some 19) _ = _
      simp only [Act.put, List.setIfInBounds_toArray, List.set_cons_zero, List.set_cons_succ, i64_w, i32_w]
      rfl
    refine one_ (i := 3) (N := some 20) #[true, true, true, true, false, false] rfl rfl (one_of HT_.out (by kernel_rfl)) (by decide) (fun K hK => ?_)
    obtain ⟨As1, cs1, e1⟩ := Kd.R_slice ho1
    obtain ⟨As2, cs2, e2⟩ := Kd.R_slice ho2
    subst e1; subst e2
    refine value_ (v := .slice (some ⟨w4.heap.size, 0, none⟩) 1 1) (w1 := w4.alloc (.cells #[.int .u64 x.x.f0, .slice As1 x.x.f1.length cs1, .slice As2 x.x.f2.length cs2, .int .u64 x.x.f3] 26)) (by rfl) rfl ?_ ?_
    · go_simp
    · have hsz4 : W.heap.size ≤ w4.heap.size := hb4.size
      have hc5 : ∀ (b o : Nat), b < w4.heap.size → (w4.alloc (.cells #[.int .u64 x.x.f0, .slice As1 x.x.f1.length cs1, .slice As2 x.x.f2.length cs2, .int .u64 x.x.f3] 26)).cell? ⟨b, o, none⟩ = w4.cell? ⟨b, o, none⟩ := fun b o hb => ((Below.refl w4.heap.size w4).alloc (Nat.le_refl _) _).cell (p := ⟨b, o, none⟩) hb
      have q1 : w.heap.size < w4.heap.size := Nat.lt_of_lt_of_le hlb hsz4
      have q2 : BX < w4.heap.size := Nat.lt_of_lt_of_le hlx hsz4
      refine hK.out _ _ ⟨(hc5 _ _ q1).trans hHeld.1, (hc5 _ _ q2).trans hHeld.2.1, (hc5 _ _ q2).trans hHeld.2.2.1, (hc5 _ _ q2).trans hHeld.2.2.2.1, (hc5 _ _ q2).trans hHeld.2.2.2.2⟩ (fun hHeld => ?_)
      clear hK K
      refine norm_ (a' := ?_) ?_ ?_
      rotate_left
      · show Act.put _ (some 20) _ = _
        simp only [Act.put, List.setIfInBounds_toArray, List.set_cons_zero, List.set_cons_succ, i64_w, i32_w]
        rfl
      refine last_ (i := 4) (N := some 21) #[true, true, true, true, true, false] rfl rfl (one_of HT_.out (by kernel_rfl)) (by decide) (fun K hK => ?_)
      have hS4 : Kd.S k26 26 w4 w.heap.size (fun k => (k ≠ w.heap.size) ∧ ¬ (W.heap.size ≤ k)) (.slice Av m cv) (pre.map El.x) := Kd.S_mono (Kd.S_below (Kd.S_bound hS) (((Below.refl W.heap.size W).drew).trans hb4)) (fun k hk => ⟨hk.1, by have := hk.2.2.1; omega⟩)
      have hbase := Kd.S_lt hS
      have hM4 : k26.M w4 w.heap.size (fun k => W.heap.size ≤ k) x.x [.int .u64 x.x.f0, .slice As1 x.x.f1.length cs1, .slice As2 x.x.f2.length cs2, .int .u64 x.x.f3] := k26_mkM _ _ _ _ (Kd.R_lower (Kd.R_mono (Kd.R_bound ho1) (fun k hk => hk.2.1)) hB.size) (Kd.R_lower (Kd.R_mono (Kd.R_bound ho2) (fun k hk => hk.2.1)) hB.size)
      refine Kd.S_append_step k26 (w0 := w) w.heap.size (by rfl) (.tmp 17) (.tmp 20) 22 26 (.agg #[.int .u64 0, .slice none 0 0, .slice none 0 0, .int .u64 0]) 64 rfl Try.underlying22 info26 rfl (by decide) (by decide) (.slice Av m cv) (pre.map El.x) x.x [.int .u64 x.x.f0, .slice As1 x.x.f1.length cs1, .slice As2 x.x.f2.length cs2, .int .u64 x.x.f3] (fun k => k ≠ w.heap.size) (fun k => W.heap.size ≤ k) rfl rfl hM4 ?hokp ?hfresh hS4 (below_then hBd hB.size hb4) (Nat.le_of_lt q1) ?hl ?_
      case hokp => exact fun k hk => ⟨by omega, fun e => by have := hbase k e.symm; omega⟩
      case hfresh => exact fun k hk => by omega
      case hl => rw [HM.out]; have hml : (List.map El.x pre).length = pre.length := List.length_map _; rw [HM.out] at hml; omega
      intro v5 w5 hS5 hB5 hg5 hat5
      refine hK.out _ _ ?_
      clear hK K
      refine norm_ (a' := ?_) ?_ ?_
      rotate_left
      · show Act.put _ (some 21) _ = _
        simp only [Act.put, List.setIfInBounds_toArray, List.set_cons_zero, List.set_cons_succ, i64_w, i32_w]
        rfl
      have hv4 : Boxed w4 w.heap.size 22 (.slice Av m cv) := (hb4.block _ hlb).trans hv
      have hv5 : Boxed w5 w.heap.size 22 (.slice Av m cv) := hv4.kept hg5 (Kd.S_away hS (fun k hk => hk))
      have hb24 : Boxed w4 (w2.heap.size + 1) 23 (.int .u64 a1) := (hb4.block _ hb2.lt).trans hb2
      have hb25 : Boxed w5 (w2.heap.size + 1) 23 (.int .u64 a1) := hb24.kept hg5 (Kd.S_ne hS4 hb24 (by decide))
      obtain ⟨A5, c5, he5⟩ := Kd.S_slice hS5
      have hm5 : ∃ m5, m5 = (List.map El.x pre ++ [x.x]).length := ⟨_, rfl⟩
      obtain ⟨m5, hm5⟩ := hm5
      rw [← hm5] at he5
      subst he5
      have hcc5 := hv5.cell
      have hff5 := hv5.frozen
      refine last_ (i := 5) (N := none) #[true, true, true, true, true, true] rfl rfl (one_of HT_.out (by kernel_rfl)) (by decide) (fun K hK => ?_)
      refine skip_ (w1 := w5.setCell ⟨w.heap.size, 0, none⟩ (.slice A5 m5 c5)) (by rfl) rfl ?_ ?_
      · go_simp
      refine hK.out _ _ ?_
      clear hK K
      refine done_ (done_of HT_.out (by kernel_rfl)) ?_
      have hkeep : ∀ q, q < W.heap.size → q ≠ w.heap.size → some q ≠ (Value.slice Av m cv).ownBlock → (w5.setCell ⟨w.heap.size, 0, none⟩ (.slice A5 m5 c5)).heap[q]? = W.heap[q]? := fun q hq h1 h2 =>
        ((Below.heap_setCell w5 ⟨w.heap.size, 0, none⟩ (.slice A5 m5 c5) q h1).trans (hg5.block q (Nat.lt_of_lt_of_le hq hsz4) h2)).trans (hb4.block q hq)
      have hsz5 : W.heap.size ≤ (w5.setCell ⟨w.heap.size, 0, none⟩ (.slice A5 m5 c5)).heap.size := by rw [World.size_setCell]; exact Nat.le_trans hsz4 hg5.size
      have hchain : ∀ X, Below w.heap.size X W → Below w.heap.size X (w5.setCell ⟨w.heap.size, 0, none⟩ (.slice A5 m5 c5)) := fun X hX =>
        (((below_then hX.drew hB.size hb4).grown hg5 (Nat.le_of_lt q1) (Kd.S_base hS)).setCell (Nat.le_refl _) _)
      refine ⟨⟨hsz5, fun q o hq ho hoc => ?_⟩, ⟨hchain W (Below.refl _ _), hkeep _ hb2.lt (by omega) (Kd.S_ne hS hb2 (by decide))⟩, ⟨_, hv5.set _, ?_⟩, hchain w hB, Nat.le_trans hz hsz5, (hkeep _ hb2.lt (by omega) (Kd.S_ne hS hb2 (by decide))).trans hb2⟩
      · refine (hkeep q (Array.getElem?_eq_some_iff.1 ho).1 (by omega) (fun e => ?_)).trans ho
        obtain ⟨cells, hcc⟩ := Kd.S_typed hS q e.symm
        rw [ho] at hcc
        cases hcc
        cases hoc
      · rw [List.map_append]
        exact Kd.S_step hS5 (fun q hq _ => Below.heap_setCell w5 ⟨w.heap.size, 0, none⟩ (.slice A5 m5 c5) q hq)
  case done =>
    rintro D ys W hD rfl ⟨⟨v, hv, hS⟩, hB, hz, hb2⟩ hK
    obtain ⟨Av, cv, he⟩ := Kd.S_slice hS
    generalize hmm : (List.map El.x (List.filter (keepv a1) es)).length = m at he
    clear hmm
    subst he
    have hc := hv.cell
    have hf := hv.frozen
    gi_wp2
    have hv2 := Boxed.set (.slice Av m cv) hv
    have hK2 := (KeepsOthers.setCell W ⟨w.heap.size, 0, none⟩ (.slice Av m cv)).same D _ hK rfl
    refine ⟨by simp, .inl ⟨_, _, rfl, run_takeDeferred hK2, ?_⟩⟩
    have hgb : (W.setCell ⟨w.heap.size, 0, none⟩ (.slice Av m cv)).grownBy _ (some D) := grownBy_putObj' _ D (.deferred none)
    have hne : w.heap.size ≠ D := by omega
    have hv3 := hv2.kept hgb (fun e => hne (by injection e))
    have hc3 := hv3.cell
    have hB3 : Below w.heap.size w (W.setCell ⟨w.heap.size, 0, none⟩ (.slice Av m cv)) := hB.setCell (Nat.le_refl _) _
    refine ⟨.tuple #[.slice Av m cv, .int .i64 0], ?_, _, rfl, ?_, ?_⟩
    · simp [results, Try.results12, go_sem, hc3]
    · have hx : List.map El.x (List.filter (keepv a1) es) = l0.filter (fun x => decide (a1 ≤ x.f3)) := by
        rw [← HEX.out, List.filter_map]; rfl
      rw [← hx]
      refine Kd.S_mono (Kd.S_step (Kd.S_bound hS) (fun q hq hlt => ?_)) (fun _ _ => trivial)
      have h2 := Below.heap_setCell W ⟨w.heap.size, 0, none⟩ (.slice Av m cv) q hq.1
      refine Eq.trans (World.putObj_heap_other (fun e => ?_)) h2
      obtain ⟨_, _, _, t, _, cells, hcc⟩ := hq
      rw [e, hK] at hcc
      cases hcc
    · exact hB3.trans (belowK_b (w := w) (Nat.le_refl _) _ D _ _ (by omega) hK2 rfl rfl)
  case stop =>
    rintro D c pre W _ _ h _
    exact h.elim
set_option maxHeartbeats 2000000 in
theorem idem_Sweep.calls (k : Nat) (A0 : Option Addr) (c0 : Nat) (l0 : List (S26)) (a1 : Int) (r1 : List (S26)) (r2 : Int) (w : World) (hr0 : Kd.C k26 w A0 l0.length l0) (hc0 : l0.length ≤ c0) (h : idem_Sweep.f k l0 a1 = some (r1, r2)) :
    Calls Try.prog 12 #[.slice A0 l0.length c0, .int .u64 a1] w fun e w' => ∃ v0_ : Value, e = .returned (.tuple #[v0_, .int .i64 r2]) ∧ Kd.S k26 26 w' w.heap.size (fun _ => True) v0_ r1 ∧ Below w.heap.size w w' := by
  obtain ⟨t0, hck, h1⟩ := Option.bind_eq_some_iff.1 h
  clear h
  by_cases h0 : t0 = 0
  · rw [if_pos h0] at h1
    subst h0
    by_cases hb : l0.length < 2199023255552 ∧ ∀ x ∈ l0, x.f1.length < 140737488355328 ∧ x.f2.length < 140737488355328
    · rw [if_pos hb] at h1
      injection h1 with h1
      injection h1 with e1 e2
      subst e1; subst e2
      exact callsIn_wide.1 (sweep_in A0 c0 l0 a1 k w hr0 hc0 hck hb.1 hb.2)
    · rw [if_neg hb] at h1
      cases h1
  · rw [if_neg h0] at h1
    injection h1 with h1
    injection h1 with e1 e2
    subst e1; subst e2
    have HB1 := Aside0.mk ((Below.refl w.heap.size w).alloc (Nat.le_refl _) (.cells #[.slice none 0 0] 22))
    have HR1 := Aside0.mk (Kd.C_alloc hr0 (.cells #[.slice none 0 0] 22))
    have hX1 := Boxed.new w 22 (.slice none 0 0)
    have HX1 := Aside0.mk hX1
    have HC0 := Aside0.mk hc0
    have HCK := Aside0.mk hck
    have hb0 : (t0 == 0) = false := by simpa using h0
    have hb1 : (t0 != 0) = true := by simpa using h0
    clear h0 hr0 hc0 hck hX1
    go_enter Try.func12, Try.ntmps12
    go_wp2_with (go_at_call 20; refine (idem_Check.calls k A0 c0 l0 t0 _ HR1.out HC0.out HCK.out).mono ?_; rintro e w2 ⟨rfl, hbel⟩; have HB2 := Aside0.mk (below_then HB1.out (by simp) hbel); have HX2 := Aside0.mk (show Boxed w2 w.heap.size 22 (.slice none 0 0) from (hbel.block _ HX1.out.lt).trans HX1.out); have hcc := HX2.out.cell; have hff := HX2.out.frozen; clear hbel)
    have hc2 := (HX2.out.set (.slice none 0 0)).cell
    exact bodyPost_ret (v := .tuple #[.slice none 0 0, .int .i64 t0]) (by simp [results, Try.results12, go_sem, hc2]) rfl ⟨_, rfl, Kd.S_nil _ _ _ _ _, HB2.out.setCell (Nat.le_refl _) _⟩

-- NOT PRINTED: function 33 (slices_BinarySearchFunc_uint64)

/-! ### slices_BinarySearchFunc_uint64_at_idem_order: function 58 -/
def slices_BinarySearchFunc_uint64_at_idem_order.l0 : Nat → List (S26) → Int → Int → Int → Int → Option (Int × Bool)
  | 0, _, _, _, _, _ => none
  | k + 1, x0, x1, x8, x9, x10 => if x9 < x10 then (if 0 ≤ (wrap64 ((IntKind.u64.wrap (wrap64 (x9 + x10))) / 2)) then (if (wrap64 ((IntKind.u64.wrap (wrap64 (x9 + x10))) / 2)) < (x0.length : Int) then ((idem_order.f ((rd_T26 x0 (wrap64 ((IntKind.u64.wrap (wrap64 (x9 + x10))) / 2))).f0) ((rd_T26 x0 (wrap64 ((IntKind.u64.wrap (wrap64 (x9 + x10))) / 2))).f1) ((rd_T26 x0 (wrap64 ((IntKind.u64.wrap (wrap64 (x9 + x10))) / 2))).f2) ((rd_T26 x0 (wrap64 ((IntKind.u64.wrap (wrap64 (x9 + x10))) / 2))).f3) x1).bind fun t119 => (if t119 < 0 then (slices_BinarySearchFunc_uint64_at_idem_order.l0 k x0 x1 x8 (wrap64 ((wrap64 ((IntKind.u64.wrap (wrap64 (x9 + x10))) / 2)) + 1)) x10) else (slices_BinarySearchFunc_uint64_at_idem_order.l0 k x0 x1 x8 x9 (wrap64 ((IntKind.u64.wrap (wrap64 (x9 + x10))) / 2))))) else (none)) else (none)) else (if x9 < x8 then (if 0 ≤ x9 then (if x9 < (x0.length : Int) then ((idem_order.f ((rd_T26 x0 x9).f0) ((rd_T26 x0 x9).f1) ((rd_T26 x0 x9).f2) ((rd_T26 x0 x9).f3) x1).bind fun t121 => (some (x9, (t121 == 0)))) else (none)) else (none)) else (some (x9, false)))
def slices_BinarySearchFunc_uint64_at_idem_order.f (k : Nat) (l0 : List (S26)) (a1 : Int)  : Option (Int × Bool) := slices_BinarySearchFunc_uint64_at_idem_order.l0 k l0 a1 (l0.length : Int) 0 (l0.length : Int)
theorem slices_BinarySearchFunc_uint64_at_idem_order.mono_l : ∀ k, (∀ y0 y1 y2 y3 y4, LeO (slices_BinarySearchFunc_uint64_at_idem_order.l0 k y0 y1 y2 y3 y4) (slices_BinarySearchFunc_uint64_at_idem_order.l0 (k + 1) y0 y1 y2 y3 y4))
  | 0 => fun _ _ _ _ _ r h => by simp [slices_BinarySearchFunc_uint64_at_idem_order.l0] at h
  | k + 1 => by
    have ih0 := slices_BinarySearchFunc_uint64_at_idem_order.mono_l k
    · intro y0 y1 y2 y3 y4
      unfold slices_BinarySearchFunc_uint64_at_idem_order.l0
      repeat' first
      | (with_reducible exact ih0 _ _ _ _ _)
      | (with_reducible exact LeO.refl _)
      | (with_reducible exact LeO.none _)
      | (with_reducible refine LeO.ite ?_ ?_)
      | (with_reducible refine LeO.bind ?_ (fun _ => ?_))
      | exact ih0 _ _ _ _ _
      | exact LeO.none _
      | refine LeO.ite ?_ ?_
      | refine LeO.bind ?_ (fun _ => ?_)
theorem slices_BinarySearchFunc_uint64_at_idem_order.mono : ∀ a0 a1 k, LeO (slices_BinarySearchFunc_uint64_at_idem_order.f k a0 a1) (slices_BinarySearchFunc_uint64_at_idem_order.f (k + 1) a0 a1) := by
  intro a0 a1 k
  have ih0 := slices_BinarySearchFunc_uint64_at_idem_order.mono_l k
  unfold slices_BinarySearchFunc_uint64_at_idem_order.f
  repeat' first
      | (with_reducible exact ih0 _ _ _ _ _)
      | (with_reducible exact LeO.refl _)
      | (with_reducible exact LeO.none _)
      | (with_reducible refine LeO.ite ?_ ?_)
      | (with_reducible refine LeO.bind ?_ (fun _ => ?_))
      | exact ih0 _ _ _ _ _
      | exact LeO.none _
      | refine LeO.ite ?_ ?_
      | refine LeO.bind ?_ (fun _ => ?_)
set_option maxHeartbeats 8000000 in
set_option maxRecDepth 100000 in
theorem slices_BinarySearchFunc_uint64_at_idem_order.calls (k : Nat) (A0 : Option Addr) (c0 : Nat) (l0 : List (S26)) (a1 : Int)  (r1 : Int) (r2 : Bool) (w : World) (hr0 : Kd.C k26 w A0 l0.length l0) (hc0 : l0.length ≤ c0) (h : slices_BinarySearchFunc_uint64_at_idem_order.f k l0 a1 = some (r1, r2)) :
    Calls Try.prog 33 #[.slice A0 l0.length c0, .int .u64 a1, .func (.func 30) #[] #[]] w fun e w' => e = .returned (.tuple #[.int .i64 r1, .bool r2]) ∧ Below w.heap.size w w' := by
  have hu26 := Try.underlying26
  have HR0 := Aside0.mk hr0
  have HC0 := Aside0.mk hc0
  clear hr0 hc0
  have HB := Aside0.mk (Below.refl w.heap.size w)
  have H : (slices_BinarySearchFunc_uint64_at_idem_order.l0 k l0 a1 (l0.length : Int) 0 (l0.length : Int)) = some (r1, r2) := h
  clear h
  have H' := Aside0.mk H
  clear H
  go_enter Try.func33, Try.ntmps33
  go_wp2
  go_loopg [9, 10] k (fun kq v9 v10 w' => ∃ (x9_1 : Int) (x10_1 : Int), v9 = .int .i64 x9_1 ∧ v10 = .int .i64 x10_1 ∧ Aside0 (slices_BinarySearchFunc_uint64_at_idem_order.l0 kq l0 a1 (l0.length : Int) x9_1 x10_1 = some (r1, r2)) ∧ Aside0 (kq ≤ k) ∧ Aside0 (Below w.heap.size w w'))
  case atStart => exact ⟨(0), ((l0.length : Int)), (by first | rfl | (simp; done) | (simp [*]; done)), (by first | rfl | (simp; done) | (simp [*]; done)), H', ⟨Nat.le_refl _⟩, ⟨by repeat (first | (with_reducible first | exact HB.out | apply below_alloc | apply pw_below_drewN | apply below_drew1) | exact HB.out)⟩⟩
  case round =>
    clear H'
    try clear p2
    try clear c3
    obtain ⟨x9_1, x10_1, rfl, rfl, HA, HK1, HB⟩ := hrel
    cases gk with
    | zero => exact absurd HA.out (by simp [slices_BinarySearchFunc_uint64_at_idem_order.l0])
    | succ k1 =>
      have H := HA.out
      clear HA
      simp only [slices_BinarySearchFunc_uint64_at_idem_order.l0] at H
      by_cases c4 : x9_1 < x10_1
      · rw [if_pos c4] at H
        have c4b0 : decide (x9_1 < x10_1) = true := decide_eq_true c4
        clear c4
        obtain ⟨ji5, hji5⟩ : ∃ j_ : Int, (wrap64 ((IntKind.u64.wrap (wrap64 (x9_1 + x10_1))) / 2)) = j_ := ⟨_, rfl⟩
        replace H : (if 0 ≤ (ji5) then (if (ji5) < (l0.length : Int) then ((idem_order.f ((rd_T26 l0 (ji5)).f0) ((rd_T26 l0 (ji5)).f1) ((rd_T26 l0 (ji5)).f2) ((rd_T26 l0 (ji5)).f3) a1).bind fun t119 => (if t119 < 0 then (slices_BinarySearchFunc_uint64_at_idem_order.l0 k1 l0 a1 (l0.length : Int) (wrap64 ((ji5) + 1)) x10_1) else (slices_BinarySearchFunc_uint64_at_idem_order.l0 k1 l0 a1 (l0.length : Int) x9_1 ji5))) else (none)) else (none)) = some (r1, r2) := by first | (rw [hji5] at H; exact H) | (simp only [hji5] at H ⊢; exact H)
        have hji5w : (IntKind.i64.wrap ((IntKind.u64.wrap (wrap64 (x9_1 + x10_1))) / 2)) = ji5 := (i64_w _).trans hji5
        by_cases c6 : 0 ≤ (ji5)
        · rw [if_pos c6] at H
          have c6b0 : decide (0 ≤ (ji5)) = true := decide_eq_true c6
          clear c6
          by_cases c7 : (ji5) < (l0.length : Int)
          · rw [if_pos c7] at H
            have c7b0 : decide ((ji5) < (l0.length : Int)) = true := decide_eq_true c7
            clear c7
            replace H := Option.bind_eq_some_iff.mp H
            obtain ⟨t119, A80, H⟩ := H
            replace H : (if t119 < 0 then (slices_BinarySearchFunc_uint64_at_idem_order.l0 k1 l0 a1 (l0.length : Int) (wrap64 ((ji5) + 1)) x10_1) else (slices_BinarySearchFunc_uint64_at_idem_order.l0 k1 l0 a1 (l0.length : Int) x9_1 ji5)) = some (r1, r2) := H
            have A8 := Aside0.mk A80
            clear A80
            by_cases c9 : t119 < 0
            · rw [if_pos c9] at H
              have c9b0 : decide (t119 < 0) = true := decide_eq_true c9
              clear c9
              have H' := Aside0.mk H
              clear H
              have p118 : 0 ≤ ((ji5) : Int) := of_decide_eq_true (by first | (with_reducible assumption) | assumption)
              have q118 : (ji5) < (l0.length : Int) := of_decide_eq_true (by first | (with_reducible assumption) | assumption)
              obtain ⟨ad118, A118_1, c118_1, A118_2, c118_2, e118, hx118_0, hx118_1, hx118_2, hx118_3, hl118_1, hi118_1, hl118_2, hi118_2⟩ := at_T26 HR0.out (ji5) p118 q118
              cases e118
              replace hx118_0 := (HB.out.cell (World.block_lt_of_cell? w _ hx118_0)).trans hx118_0
              replace hx118_1 := (HB.out.cell (World.block_lt_of_cell? w _ hx118_1)).trans hx118_1
              replace hx118_2 := (HB.out.cell (World.block_lt_of_cell? w _ hx118_2)).trans hx118_2
              replace hx118_3 := (HB.out.cell (World.block_lt_of_cell? w _ hx118_3)).trans hx118_3
              have HR118_1 := Aside0.mk hi118_1
              have HC118_1 := Aside0.mk hl118_1
              clear hi118_1 hl118_1
              have HR118_2 := Aside0.mk hi118_2
              have HC118_2 := Aside0.mk hl118_2
              clear hi118_2 hl118_2
              replace p118 := eq_true p118
              replace q118 := eq_true q118
              go_wp2_with (first | ((with_reducible refine gate_tmp (t_ := 24) rfl ?_); refine goesT_ (some 30) rfl rfl Try.func30 (by kernel_rfl) rfl #[.agg #[.int .u64 ((rd_T26 l0 (ji5)).f0), .slice A118_1 ((rd_T26 l0 (ji5)).f1).length c118_1, .slice A118_2 ((rd_T26 l0 (ji5)).f2).length c118_2, .int .u64 ((rd_T26 l0 (ji5)).f3)], .int .u64 a1] rfl rfl (by (try simp only [List.map_toArray, List.map_cons, List.map_nil]); first | done | (simp only [hji5]; rfl) | rfl | (simp only [List.length_drop, List.length_take]; rfl)) ?_; (with_reducible refine (idem_order.calls ((rd_T26 l0 (ji5)).f0) _ _ ((rd_T26 l0 (ji5)).f1) _ _ ((rd_T26 l0 (ji5)).f2) ((rd_T26 l0 (ji5)).f3) a1 t119 _ ?side1 ?side2 ?side3 ?side4 A8.out).mono ?_); (case side1 => repeat (first | exact (Kd.C_below HR118_1.out HB.out) | (with_reducible refine Kd.C_alloc ?_ _) | (with_reducible refine Kd.C_drewN ?_ _) | (with_reducible refine Kd.C_drew ?_))); (case side2 => exact HC118_1.out); (case side3 => repeat (first | exact (Kd.C_below HR118_2.out HB.out) | (with_reducible refine Kd.C_alloc ?_ _) | (with_reducible refine Kd.C_drewN ?_ _) | (with_reducible refine Kd.C_drew ?_))); (case side4 => exact HC118_2.out); rintro e w10 ⟨rfl, hb⟩; refine ⟨_, rfl, ?_⟩; have n0_ := Aside0.mk (below_step (belN HB) hb); clear HB; have HB := n0_; clear n0_; (try clear hb); (try clear hb2); (try clear hk); (try clear hi)))
              go_roundg k1
              case measure => have := HK1.out; omega
              case rel => exact ⟨(wrap64 ((ji5) + 1)), (x10_1), (by first | rfl | (simp; done) | (simp only [← hji5] <;> (first | rfl | simp)) | (simp [*]; done)), (by first | rfl | (simp; done) | (simp [*]; done)), H', ⟨by have := HK1.out; omega⟩, ⟨by repeat (first | (with_reducible first | exact HB.out | apply below_alloc | apply pw_below_drewN | apply below_drew1) | exact HB.out)⟩⟩
            · rw [if_neg c9] at H
              have c9b0 : decide (t119 < 0) = false := decide_eq_false c9
              clear c9
              have H' := Aside0.mk H
              clear H
              have p118 : 0 ≤ ((ji5) : Int) := of_decide_eq_true (by first | (with_reducible assumption) | assumption)
              have q118 : (ji5) < (l0.length : Int) := of_decide_eq_true (by first | (with_reducible assumption) | assumption)
              obtain ⟨ad118, A118_1, c118_1, A118_2, c118_2, e118, hx118_0, hx118_1, hx118_2, hx118_3, hl118_1, hi118_1, hl118_2, hi118_2⟩ := at_T26 HR0.out (ji5) p118 q118
              cases e118
              replace hx118_0 := (HB.out.cell (World.block_lt_of_cell? w _ hx118_0)).trans hx118_0
              replace hx118_1 := (HB.out.cell (World.block_lt_of_cell? w _ hx118_1)).trans hx118_1
              replace hx118_2 := (HB.out.cell (World.block_lt_of_cell? w _ hx118_2)).trans hx118_2
              replace hx118_3 := (HB.out.cell (World.block_lt_of_cell? w _ hx118_3)).trans hx118_3
              have HR118_1 := Aside0.mk hi118_1
              have HC118_1 := Aside0.mk hl118_1
              clear hi118_1 hl118_1
              have HR118_2 := Aside0.mk hi118_2
              have HC118_2 := Aside0.mk hl118_2
              clear hi118_2 hl118_2
              replace p118 := eq_true p118
              replace q118 := eq_true q118
              go_wp2_with (first | ((with_reducible refine gate_tmp (t_ := 24) rfl ?_); refine goesT_ (some 30) rfl rfl Try.func30 (by kernel_rfl) rfl #[.agg #[.int .u64 ((rd_T26 l0 (ji5)).f0), .slice A118_1 ((rd_T26 l0 (ji5)).f1).length c118_1, .slice A118_2 ((rd_T26 l0 (ji5)).f2).length c118_2, .int .u64 ((rd_T26 l0 (ji5)).f3)], .int .u64 a1] rfl rfl (by (try simp only [List.map_toArray, List.map_cons, List.map_nil]); first | done | (simp only [hji5]; rfl) | rfl | (simp only [List.length_drop, List.length_take]; rfl)) ?_; (with_reducible refine (idem_order.calls ((rd_T26 l0 (ji5)).f0) _ _ ((rd_T26 l0 (ji5)).f1) _ _ ((rd_T26 l0 (ji5)).f2) ((rd_T26 l0 (ji5)).f3) a1 t119 _ ?side1 ?side2 ?side3 ?side4 A8.out).mono ?_); (case side1 => repeat (first | exact (Kd.C_below HR118_1.out HB.out) | (with_reducible refine Kd.C_alloc ?_ _) | (with_reducible refine Kd.C_drewN ?_ _) | (with_reducible refine Kd.C_drew ?_))); (case side2 => exact HC118_1.out); (case side3 => repeat (first | exact (Kd.C_below HR118_2.out HB.out) | (with_reducible refine Kd.C_alloc ?_ _) | (with_reducible refine Kd.C_drewN ?_ _) | (with_reducible refine Kd.C_drew ?_))); (case side4 => exact HC118_2.out); rintro e w11 ⟨rfl, hb⟩; refine ⟨_, rfl, ?_⟩; have n0_ := Aside0.mk (below_step (belN HB) hb); clear HB; have HB := n0_; clear n0_; (try clear hb); (try clear hb2); (try clear hk); (try clear hi)))
              go_roundg k1
              case measure => have := HK1.out; omega
              case rel => exact ⟨(x9_1), (ji5), (by first | rfl | (simp; done) | (simp [*]; done)), (by first | rfl | (simp; done) | (simp only [← hji5] <;> (first | rfl | simp)) | (simp [*]; done)), H', ⟨by have := HK1.out; omega⟩, ⟨by repeat (first | (with_reducible first | exact HB.out | apply below_alloc | apply pw_below_drewN | apply below_drew1) | exact HB.out)⟩⟩
          · rw [if_neg c7] at H
            exact absurd H (by simp)
        · rw [if_neg c6] at H
          exact absurd H (by simp)
      · rw [if_neg c4] at H
        have c4b0 : decide (x9_1 < x10_1) = false := decide_eq_false c4
        clear c4
        by_cases c12 : x9_1 < (l0.length : Int)
        · rw [if_pos c12] at H
          have c12b0 : decide (x9_1 < (l0.length : Int)) = true := decide_eq_true c12
          clear c12
          by_cases c13 : 0 ≤ x9_1
          · rw [if_pos c13] at H
            have c13b0 : decide (0 ≤ x9_1) = true := decide_eq_true c13
            clear c13
            by_cases c14 : x9_1 < (l0.length : Int)
            · rw [if_pos c14] at H
              have c14b0 : decide (x9_1 < (l0.length : Int)) = true := decide_eq_true c14
              clear c14
              replace H := Option.bind_eq_some_iff.mp H
              obtain ⟨t121, A150, H⟩ := H
              replace H : (some (x9_1, (t121 == 0))) = some (r1, r2) := H
              have A15 := Aside0.mk A150
              clear A150
              simp only [Option.some.injEq, Prod.mk.injEq] at H
              obtain ⟨rfl, rfl⟩ := H
              have p120 : 0 ≤ (x9_1 : Int) := of_decide_eq_true (by first | (with_reducible assumption) | assumption)
              have q120 : x9_1 < (l0.length : Int) := of_decide_eq_true (by first | (with_reducible assumption) | assumption)
              obtain ⟨ad120, A120_1, c120_1, A120_2, c120_2, e120, hx120_0, hx120_1, hx120_2, hx120_3, hl120_1, hi120_1, hl120_2, hi120_2⟩ := at_T26 HR0.out x9_1 p120 q120
              cases e120
              replace hx120_0 := (HB.out.cell (World.block_lt_of_cell? w _ hx120_0)).trans hx120_0
              replace hx120_1 := (HB.out.cell (World.block_lt_of_cell? w _ hx120_1)).trans hx120_1
              replace hx120_2 := (HB.out.cell (World.block_lt_of_cell? w _ hx120_2)).trans hx120_2
              replace hx120_3 := (HB.out.cell (World.block_lt_of_cell? w _ hx120_3)).trans hx120_3
              have HR120_1 := Aside0.mk hi120_1
              have HC120_1 := Aside0.mk hl120_1
              clear hi120_1 hl120_1
              have HR120_2 := Aside0.mk hi120_2
              have HC120_2 := Aside0.mk hl120_2
              clear hi120_2 hl120_2
              replace p120 := eq_true p120
              replace q120 := eq_true q120
              go_wp2_with (first | (go_at_call 30; (with_reducible refine (idem_order.calls ((rd_T26 l0 x9_1).f0) _ _ ((rd_T26 l0 x9_1).f1) _ _ ((rd_T26 l0 x9_1).f2) ((rd_T26 l0 x9_1).f3) a1 t121 _ ?side1 ?side2 ?side3 ?side4 A15.out).mono ?_); (case side1 => repeat (first | exact (Kd.C_below HR120_1.out HB.out) | (with_reducible refine Kd.C_alloc ?_ _) | (with_reducible refine Kd.C_drewN ?_ _) | (with_reducible refine Kd.C_drew ?_))); (case side2 => exact HC120_1.out); (case side3 => repeat (first | exact (Kd.C_below HR120_2.out HB.out) | (with_reducible refine Kd.C_alloc ?_ _) | (with_reducible refine Kd.C_drewN ?_ _) | (with_reducible refine Kd.C_drew ?_))); (case side4 => exact HC120_2.out); rintro e w16 ⟨rfl, hb⟩; have n0_ := Aside0.mk (below_step (belN HB) hb); clear HB; have HB := n0_; clear n0_; (try clear hb); (try clear hb2); (try clear hk); (try clear hi)))
              go_ret2
              exact ⟨by first | rfl | (simp [errW_none, errW_some] <;> rfl) | (simp [*, errW_none, errW_some] <;> rfl), by repeat (first | (with_reducible first | exact HB.out | apply below_alloc | apply pw_below_drewN | apply below_drew1) | exact HB.out)⟩
            · rw [if_neg c14] at H
              exact absurd H (by simp)
          · rw [if_neg c13] at H
            exact absurd H (by simp)
        · rw [if_neg c12] at H
          have c12b0 : decide (x9_1 < (l0.length : Int)) = false := decide_eq_false c12
          clear c12
          simp only [Option.some.injEq, Prod.mk.injEq] at H
          obtain ⟨rfl, rfl⟩ := H
          go_wp2
          go_ret2
          exact ⟨by first | rfl | (simp [errW_none, errW_some] <;> rfl) | (simp [*, errW_none, errW_some] <;> rfl), by repeat (first | (with_reducible first | exact HB.out | apply below_alloc | apply pw_below_drewN | apply below_drew1) | exact HB.out)⟩

/-! ### idem_find: function 23 -/
def idem_find.f (k : Nat) (l0 : List (S26)) (a1 : Int) (a2 : Int) : Option ((List (S26)) × Int × Bool × Int) := (idem_Sweep.f k l0 a2).bind fun bt122 => (if bt122.2 = 0 then ((slices_BinarySearchFunc_uint64_at_idem_order.f k bt122.1 a1).bind fun bt126 => (some (bt122.1, bt126.1, bt126.2, 0))) else (some (([] : List (S26)), 0, false, bt122.2)))
theorem idem_find.mono : ∀ a0 a1 a2 k, LeO (idem_find.f k a0 a1 a2) (idem_find.f (k + 1) a0 a1 a2) := by
  intro a0 a1 a2 k
  unfold idem_find.f
  repeat' first
      | (with_reducible exact idem_Sweep.mono _ _ _)
      | (with_reducible exact slices_BinarySearchFunc_uint64_at_idem_order.mono _ _ _)
      | (with_reducible exact LeO.refl _)
      | (with_reducible exact LeO.none _)
      | (with_reducible refine LeO.ite ?_ ?_)
      | (with_reducible refine LeO.bind ?_ (fun _ => ?_))
      | exact idem_Sweep.mono _ _ _
      | exact slices_BinarySearchFunc_uint64_at_idem_order.mono _ _ _
      | exact LeO.none _
      | refine LeO.ite ?_ ?_
      | refine LeO.bind ?_ (fun _ => ?_)
set_option maxHeartbeats 8000000 in
set_option maxRecDepth 100000 in
theorem idem_find.calls (k : Nat) (A0 : Option Addr) (c0 : Nat) (l0 : List (S26)) (a1 : Int) (a2 : Int) (r1 : List (S26)) (r2 : Int) (r3 : Bool) (r4 : Int) (w : World) (hr0 : Kd.C k26 w A0 l0.length l0) (hc0 : l0.length ≤ c0) (h : idem_find.f k l0 a1 a2 = some (r1, r2, r3, r4)) :
    Calls Try.prog 23 #[.slice A0 l0.length c0, .int .u64 a1, .int .u64 a2] w fun e w' => ∃ v0_ : Value, e = .returned (.tuple #[v0_, .int .i64 r2, .bool r3, .int .i64 r4]) ∧ Kd.S k26 26 w' w.heap.size (fun _ => True) v0_ r1 ∧ Below w.heap.size w w' := by
  have HR0 := Aside0.mk hr0
  have HC0 := Aside0.mk hc0
  clear hr0 hc0
  have HB := Aside0.mk (Below.refl w.heap.size w)
  have H : ((idem_Sweep.f k l0 a2).bind fun bt122 => (if bt122.2 = 0 then ((slices_BinarySearchFunc_uint64_at_idem_order.f k bt122.1 a1).bind fun bt126 => (some (bt122.1, bt126.1, bt126.2, 0))) else (some (([] : List (S26)), 0, false, bt122.2)))) = some (r1, r2, r3, r4) := h
  clear h
  replace H := Option.bind_eq_some_iff.mp H
  obtain ⟨⟨t122, t123⟩, A40, H⟩ := H
  replace H : (if t123 = 0 then ((slices_BinarySearchFunc_uint64_at_idem_order.f k t122 a1).bind fun bt126 => (some (t122, bt126.1, bt126.2, 0))) else (some (([] : List (S26)), 0, false, t123))) = some (r1, r2, r3, r4) := H
  have A4 := Aside0.mk A40
  clear A40
  by_cases c5 : t123 = 0
  · rw [if_pos c5] at H
    have c5b0 : (t123 == 0) = true := beq_iff_eq.mpr c5
    have c5b1 : (t123 != 0) = false := bne_eq_false_iff_eq.mpr c5
    clear c5
    replace H := Option.bind_eq_some_iff.mp H
    obtain ⟨⟨t126, t127⟩, A60, H⟩ := H
    replace H : (some (t122, t126, t127, 0)) = some (r1, r2, r3, r4) := H
    have A6 := Aside0.mk A60
    clear A60
    simp only [Option.some.injEq, Prod.mk.injEq] at H
    obtain ⟨rfl, rfl, rfl, rfl⟩ := H
    go_enter Try.func23, Try.ntmps23
    go_wp2_with (first | ((with_reducible refine gate_callee (f := 12) rfl ?_); refine goesL_ (some 16) rfl rfl Try.func12 (by kernel_rfl) rfl #[.slice A0 l0.length c0, .int .u64 a2] rfl (by (try simp only [List.map_toArray, List.map_cons, List.map_nil]); first | done | rfl | (simp only [List.length_drop, List.length_take]; rfl)) ?_; (with_reducible refine (idem_Sweep.calls k _ _ l0 a2 t122 t123 _ ?side1 ?side2 A4.out).mono ?_); (case side1 => repeat (first | exact HR0.out | (with_reducible refine Kd.C_alloc ?_ _) | (with_reducible refine Kd.C_drewN ?_ _) | (with_reducible refine Kd.C_drew ?_))); (case side2 => exact HC0.out); rintro e w7 ⟨v124, rfl, ho0, hb⟩; refine ⟨_, rfl, ?_⟩; have n0_ := Aside0.mk (Kd.S_lower ho0 (below_size (belN HB))); have n1_ := Aside0.mk (below_step (belN HB) hb); clear HB; have HO125 := n0_; have HB := n1_; clear n0_ n1_; (try clear hb); (try clear hb2); (try clear hk); (try clear hi); (try clear ho0); obtain ⟨Ao8, co8, eo8⟩ := Kd.S_slice HO125.out; subst eo8) | ((with_reducible refine gate_callee (f := 33) rfl ?_); refine goesL_ (some 25) rfl rfl Try.func33 (by kernel_rfl) rfl #[.slice Ao8 t122.length co8, .int .u64 a1, .func (.func 30) #[] #[]] rfl (by (try simp only [List.map_toArray, List.map_cons, List.map_nil]); first | done | rfl | (simp only [List.length_drop, List.length_take]; rfl)) ?_; (with_reducible refine (slices_BinarySearchFunc_uint64_at_idem_order.calls k _ _ t122 a1  t126 t127 _ ?side1 ?side2 A6.out).mono ?_); (case side1 => exact Kd.CN (Kd.S_reads' HO125.out).2.2); (case side2 => exact (Kd.S_reads' HO125.out).2.1); rintro e w9 ⟨rfl, hb⟩; refine ⟨_, rfl, ?_⟩; have n0_ := Aside0.mk (Kd.S_below (by (with_reducible repeat (first | apply Kd.S_alloc | apply Kd.S_drewN | apply Kd.S_drew)); exact HO125.out) hb); have n1_ := Aside0.mk (below_step (belN HB) hb); clear HO125; clear HB; have HO125 := n0_; have HB := n1_; clear n0_ n1_; (try clear hb); (try clear hb2); (try clear hk); (try clear hi)))
    refine bodyPost_ret (results_list (rs := [.tmp 6, .tmp 7, .tmp 8, .tmp 9]) rfl (by simp) (.tmp (.tmp (.tmp (.tmp .nil))))) rfl ?_
    exact ⟨_, by first | rfl | (simp [errW_none, errW_some] <;> rfl) | (simp [*, errW_none, errW_some] <;> rfl), by (with_reducible repeat (first | apply Kd.S_alloc | apply Kd.S_drewN | apply Kd.S_drew)); exact HO125.out, by repeat (first | (with_reducible first | exact HB.out | apply below_alloc | apply pw_below_drewN | apply below_drew1) | exact HB.out)⟩
  · rw [if_neg c5] at H
    have c5b0 : (t123 == 0) = false := beq_eq_false_iff_ne.mpr c5
    have c5b1 : (t123 != 0) = true := bne_iff_ne.mpr c5
    simp only [Option.some.injEq, Prod.mk.injEq] at H
    obtain ⟨rfl, rfl, rfl, rfl⟩ := H
    go_enter Try.func23, Try.ntmps23
    go_wp2_with (first | ((with_reducible refine gate_callee (f := 12) rfl ?_); refine goesL_ (some 16) rfl rfl Try.func12 (by kernel_rfl) rfl #[.slice A0 l0.length c0, .int .u64 a2] rfl (by (try simp only [List.map_toArray, List.map_cons, List.map_nil]); first | done | rfl | (simp only [List.length_drop, List.length_take]; rfl)) ?_; (with_reducible refine (idem_Sweep.calls k _ _ l0 a2 t122 t123 _ ?side1 ?side2 A4.out).mono ?_); (case side1 => repeat (first | exact HR0.out | (with_reducible refine Kd.C_alloc ?_ _) | (with_reducible refine Kd.C_drewN ?_ _) | (with_reducible refine Kd.C_drew ?_))); (case side2 => exact HC0.out); rintro e w10 ⟨v124, rfl, ho0, hb⟩; refine ⟨_, rfl, ?_⟩; have n0_ := Aside0.mk (Kd.S_lower ho0 (below_size (belN HB))); have n1_ := Aside0.mk (below_step (belN HB) hb); clear HB; have HO125 := n0_; have HB := n1_; clear n0_ n1_; (try clear hb); (try clear hb2); (try clear hk); (try clear hi); (try clear ho0)))
    refine bodyPost_ret (results_list (rs := [.tmp 6, .tmp 7, .tmp 8, .tmp 9]) rfl (by simp) (.tmp (.tmp (.tmp (.tmp .nil))))) rfl ?_
    exact ⟨_, by first | rfl | (simp [errW_none, errW_some] <;> rfl) | (simp [*, errW_none, errW_some] <;> rfl), by first | exact Kd.S_nil _ _ _ _ _ | exact Kd.N_nil _ _ _ _ _ | exact Kd.V_nil _ _ _ _ _ | exact Kd.Q_nil _ _ _ _ _ | exact Kd.R_nil _ _ _ _ _, by repeat (first | (with_reducible first | exact HB.out | apply below_alloc | apply pw_below_drewN | apply below_drew1) | exact HB.out)⟩

end Go.Proofs.Ytmoncgfffdddeaa.P
