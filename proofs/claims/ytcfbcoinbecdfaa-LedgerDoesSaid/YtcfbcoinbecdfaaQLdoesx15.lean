-- written by a program of this session (wip/print)
import Derived.Test.YtcfbcoinbecdfaaQLdoesx0
import Derived.Test.YtcfbcoinbecdfaaQLdoesx4
import Derived.Test.YtcfbcoinbecdfaaQLdoesx8
import Derived.Test.YtcfbcoinbecdfaaQLdoesx11
import Derived.Test.YtcfbcoinbecdfaaQLdoesx12
import Derived.Test.YtcfbcoinbecdfaaQLdoesx13
import Derived.Test.YtcfbcoinbecdfaaQLdoesx14
namespace Go.Proofs.Ytcfbcoinbecdfaa.P
open Go.RowKit Go.Proofs.YtcfbcoinbecdfaaW.PrintWords Go.Proofs.YtcfbcoinbecdfaaW.PrintLast Go.Proofs.YtcfbcoinbecdfaaW.PrintMore
attribute [local go_sem] max2_int min2_int max_two min_two max_three min_three max_four min_four run_sub64_   -- for this text's walks alone
set_option linter.unusedVariables false
set_option linter.unusedSimpArgs false

/-! ### damsonref10_find: function 106 -/
def damsonref10_find.l0 : Nat → Int → List (S25) → Int → Int → Option (Int)
  | 0, _, _, _, _ => none
  | k + 1, x1, x7, x8, x9 => if x9 < x8 then (if 0 ≤ x9 then (if x9 < (x7.length : Int) then (if ((rd_T25 x7 x9).f0) = x1 then (some x9) else (damsonref10_find.l0 k x1 x7 x8 (wrap64 (x9 + 1)))) else (none)) else (none)) else (some (-1))
def damsonref10_find.f (k : Nat) (l0 : List (S25)) (a1 : Int) : Option (Int) := damsonref10_find.l0 k a1 l0 (l0.length : Int) 0
theorem damsonref10_find.mono_l : ∀ k, (∀ y0 y1 y2 y3, LeO (damsonref10_find.l0 k y0 y1 y2 y3) (damsonref10_find.l0 (k + 1) y0 y1 y2 y3))
  | 0 => fun _ _ _ _ r h => by simp [damsonref10_find.l0] at h
  | k + 1 => by
    have ih0 := damsonref10_find.mono_l k
    · intro y0 y1 y2 y3
      unfold damsonref10_find.l0
      repeat' first
      | (with_reducible exact ih0 _ _ _ _)
      | (with_reducible exact LeO.refl _)
      | (with_reducible refine LeO.ite ?_ ?_)
      | exact ih0 _ _ _ _
      | exact LeO.none _
      | refine LeO.ite ?_ ?_
      | refine LeO.bind ?_ (fun _ => ?_)
theorem damsonref10_find.mono : ∀ a0 a1 k, LeO (damsonref10_find.f k a0 a1) (damsonref10_find.f (k + 1) a0 a1) := by
  intro a0 a1 k
  have ih0 := damsonref10_find.mono_l k
  unfold damsonref10_find.f
  repeat' first
      | (with_reducible exact ih0 _ _ _ _)
      | exact ih0 _ _ _ _
      | exact LeO.none _
      | refine LeO.ite ?_ ?_
      | refine LeO.bind ?_ (fun _ => ?_)
set_option maxHeartbeats 8000000 in
set_option maxRecDepth 100000 in
theorem damsonref10_find.calls (k : Nat) (A0 : Option Addr) (c0 : Nat) (l0 : List (S25)) (a1 : Int) (r : Int) (w : World) (hr0 : Kd.C k25 w A0 l0.length l0) (hc0 : l0.length ≤ c0) (h : damsonref10_find.f k l0 a1 = some r) :
    Calls Try.prog 106 #[.slice A0 l0.length c0, .int .u64 a1] w fun e w' => e = .returned (.int .i64 r) ∧ Below w.heap.size w w' := by
  have hu25 := Try.underlying25
  have HR0 := aM_ hr0
  have HC0 := aM_ hc0
  clear hr0 hc0
  have HB := aM_ (Below.refl w.heap.size w)
  have H : (damsonref10_find.l0 k a1 l0 (l0.length : Int) 0) = some r := h
  clear h
  have H' := aM_ H
  clear H
  go_enter Try.func106, Try.ntmps106
  go_wp2
  go_loopg [9] k (fun kq v9 w' => ∃ (x9_1 : Int), v9 = .int .i64 x9_1 ∧ Aside0 (damsonref10_find.l0 kq a1 l0 (l0.length : Int) x9_1 = some r) ∧ Aside0 (kq ≤ k) ∧ Aside0 (Below w.heap.size w w'))
  case atStart => exact ⟨(0), (by (rfl)), H', ⟨Nat.le_refl _⟩, ⟨by repeat (((with_reducible (exact HB.out))))⟩⟩
  case round =>
    clear H'
    obtain ⟨x9_1, rfl, HA, HK1, HB⟩ := hrel
    cases gk with
    | zero => exact absurd HA.out (by simp [damsonref10_find.l0])
    | succ k1 =>
      have H := HA.out
      clear HA
      simp only [damsonref10_find.l0] at H
      by_cases c3 : x9_1 < (l0.length : Int)
      · rw [if_pos c3] at H
        have c3b0 := decide_eq_true c3
        clear c3
        by_cases c4 : 0 ≤ x9_1
        · rw [if_pos c4] at H
          have c4b0 := decide_eq_true c4
          clear c4
          by_cases c5 : x9_1 < (l0.length : Int)
          · rw [if_pos c5] at H
            have c5b0 := decide_eq_true c5
            clear c5
            by_cases c6 : ((rd_T25 l0 x9_1).f0) = a1
            · rw [if_pos c6] at H
              have c6b0 : (((rd_T25 l0 x9_1).f0) == a1) = true := beq_iff_eq.mpr c6
              have c6b1 : (((rd_T25 l0 x9_1).f0) != a1) = false := bne_eq_false_iff_eq.mpr c6
              clear c6
              obtain rfl := Option.some.inj H
              have p320 : 0 ≤ (x9_1 : Int) := of_decide_eq_true (by ((with_reducible assumption)))
              have q320 : x9_1 < (l0.length : Int) := of_decide_eq_true (by ((with_reducible assumption)))
              obtain ⟨ad320, A320_5, c320_5, e320, hx320_0, hx320_1, hx320_2, hx320_3, hx320_4, hx320_5, hx320_6, hl320_5, hi320_5⟩ := at_T25 HR0.out x9_1 p320 q320
              cases e320
              replace hx320_0 := cN_ HB hx320_0
              replace hx320_1 := cN_ HB hx320_1
              replace hx320_2 := cN_ HB hx320_2
              replace hx320_3 := cN_ HB hx320_3
              replace hx320_4 := cN_ HB hx320_4
              replace hx320_5 := cN_ HB hx320_5
              replace hx320_6 := cN_ HB hx320_6
              have HR320_5 := aM_ hi320_5
              have HC320_5 := aM_ hl320_5
              clear hi320_5 hl320_5
              replace p320 := eq_true p320
              replace q320 := eq_true q320
              go_wp2_with ((((with_reducible refine gate_dst (N := 6) rfl ?_); refine box_event ?hg (N := 6) ?hd (cs := #[.int .u64 0, .int .u64 0, .int .u64 0, .int .u64 0, .int .u64 0, .slice none 0 0, .bool false]) (t := 25) ?hr ?_; (case hd => rfl); (case hg => rfl); (case hr => ((go_simp; done))); intro gb321 hg w7 hbox hb; have BK321 := aM_ (hbox); have GW321 := aM_ (geN HB hg); have GE321 := aM_ (geN HB hg); replace HB := bsA_ HB hb; clear hb hbox hg; obtain ⟨hcz8_0, hcz8_1, hcz8_2, hcz8_3, hcz8_4, hcz8_5, hcz8_6, hfz8_0, hfz8_1, hfz8_2, hfz8_3, hfz8_4, hfz8_5, hfz8_6⟩ := cz7_ (w := w7) BK321.out)))
              go_ret
              exact ⟨by (rfl), by repeat (((with_reducible first | exact HB.out | refine below_set ?_ GE321.out)))⟩
            · rw [if_neg c6] at H
              have c6b0 : (((rd_T25 l0 x9_1).f0) == a1) = false := beq_eq_false_iff_ne.mpr c6
              have c6b1 : (((rd_T25 l0 x9_1).f0) != a1) = true := bne_iff_ne.mpr c6
              have H' := aM_ H
              clear H
              have p320 : 0 ≤ (x9_1 : Int) := of_decide_eq_true (by ((with_reducible assumption)))
              have q320 : x9_1 < (l0.length : Int) := of_decide_eq_true (by ((with_reducible assumption)))
              obtain ⟨ad320, A320_5, c320_5, e320, hx320_0, hx320_1, hx320_2, hx320_3, hx320_4, hx320_5, hx320_6, hl320_5, hi320_5⟩ := at_T25 HR0.out x9_1 p320 q320
              cases e320
              replace hx320_0 := cN_ HB hx320_0
              replace hx320_1 := cN_ HB hx320_1
              replace hx320_2 := cN_ HB hx320_2
              replace hx320_3 := cN_ HB hx320_3
              replace hx320_4 := cN_ HB hx320_4
              replace hx320_5 := cN_ HB hx320_5
              replace hx320_6 := cN_ HB hx320_6
              have HR320_5 := aM_ hi320_5
              have HC320_5 := aM_ hl320_5
              clear hi320_5 hl320_5
              replace p320 := eq_true p320
              replace q320 := eq_true q320
              go_wp2_with ((((with_reducible refine gate_dst (N := 6) rfl ?_); refine box_event ?hg (N := 6) ?hd (cs := #[.int .u64 0, .int .u64 0, .int .u64 0, .int .u64 0, .int .u64 0, .slice none 0 0, .bool false]) (t := 25) ?hr ?_; (case hd => rfl); (case hg => rfl); (case hr => ((go_simp; done))); intro gb321 hg w9 hbox hb; have BK321 := aM_ (hbox); have GW321 := aM_ (geN HB hg); have GE321 := aM_ (geN HB hg); replace HB := bsA_ HB hb; clear hb hbox hg; obtain ⟨hcz10_0, hcz10_1, hcz10_2, hcz10_3, hcz10_4, hcz10_5, hcz10_6, hfz10_0, hfz10_1, hfz10_2, hfz10_3, hfz10_4, hfz10_5, hfz10_6⟩ := cz7_ (w := w9) BK321.out)))
              go_roundg k1
              case measure => have := HK1.out; omega
              case rel => exact ⟨(wrap64 (x9_1 + 1)), (by (rfl)), H', ⟨by have := HK1.out; omega⟩, ⟨by repeat (((with_reducible first | exact HB.out | refine below_set ?_ GE321.out)))⟩⟩
          · rw [if_neg c5] at H
            exact absurd H (by simp)
        · rw [if_neg c4] at H
          exact absurd H (by simp)
      · rw [if_neg c3] at H
        have c3b0 := decide_eq_false c3
        clear c3
        obtain rfl := Option.some.inj H
        go_wp2
        go_ret
        exact ⟨by (rfl), by repeat (((with_reducible (exact HB.out))))⟩

/-! ### damsonref10_with: function 113 (by hand) -/
theorem ag_nil25 (w : World) : Kd.C k25 w none 0 [] := Kd.C_nil k25 w
def damsonref10_with.lo (d : S25) (l : List S25) : List S25 := l.filter (fun x => decide (x.f0 < d.f0))
def damsonref10_with.hi (d : S25) (l : List S25) : List S25 := l.filter (fun x => decide (d.f0 < x.f0))
def damsonref10_with.g (k : Nat) (l : List S25) (d : S25) : Option (List S25) := if l.length < 100000 then damsonref10_Copy.f k (damsonref10_with.lo d l ++ [d] ++ damsonref10_with.hi d l) else none
theorem damsonref10_with.mono_g (l : List S25) (d : S25) (k : Nat) : LeO (damsonref10_with.g k l d) (damsonref10_with.g (k + 1) l d) := by
  unfold damsonref10_with.g
  exact LeO.ite (damsonref10_Copy.mono _ _) (LeO.refl _)
/-- Rows that tell channels, as they lay at the start. -/
def RowsAt (w : World) (xs : List S25) (rows : List (List Value)) : Prop := rows.length = xs.length ∧ ∀ (j : Nat) (x : S25), xs[j]? = some x → ∃ cs, rows[j]? = some cs ∧ Ch0 w x cs
theorem RowsAt.snoc {w : World} {xs : List S25} {rows : List (List Value)} {x : S25} {cs : List Value} (h : RowsAt w xs rows) (hx : Ch0 w x cs) : RowsAt w (xs ++ [x]) (rows ++ [cs]) := by
  obtain ⟨h1, h2⟩ := h
  refine ⟨by simp [h1], fun j y hj => ?_⟩
  rcases Nat.lt_or_ge j xs.length with q | q
  · rw [List.getElem?_append_left q] at hj
    obtain ⟨c0, q1, q2⟩ := h2 j y hj
    exact ⟨c0, by rw [List.getElem?_append_left (by omega)]; exact q1, q2⟩
  · rw [List.getElem?_append_right q] at hj
    have hj0 : j - xs.length = 0 := by
      have := (List.getElem?_eq_some_iff.1 hj).1
      simp at this; omega
    rw [hj0] at hj
    have e : x = y := by simpa using hj
    subst e
    exact ⟨cs, by rw [List.getElem?_append_right (by omega), h1, hj0]; rfl, hx⟩
theorem RowsAt.C {w w' : World} {B : Nat} {ok : Nat → Prop} {v : Value} {xs : List S25} {rows : List (List Value)} (h : RowsAt w xs rows) (hR : Kd.R (Kd.raw 7) 25 w' B ok v rows) (hb : Below w.heap.size w w') : ∃ A c, v = .slice A xs.length c ∧ xs.length ≤ c ∧ Kd.C k25 w' A xs.length xs := by
  obtain ⟨hl, hx⟩ := h
  obtain ⟨A, c, hv, hc, hC⟩ := Kd.R_reads hR
  rw [hl] at hv hc hC
  refine ⟨A, c, hv, hc, rfl, hC.2.1, fun hn => ?_⟩
  obtain ⟨ad, ea, hcell⟩ := hC.2.2 hn
  refine ⟨ad, ea, fun j p hp => ?_⟩
  obtain ⟨cs, q1, q2⟩ := hx j p hp
  obtain ⟨c', r1, r2, r3⟩ := hcell j cs q1
  have e : c' = cs := r2.1
  subst e
  exact ⟨c', r1, ch0_K (q2.below hb), r3⟩
theorem ag_one7 (w : World) (n : Nat) (hn : w.heap.size = n) (cs : List Value) (hl : cs.length = 7) (h1 : ∀ u ∈ cs, u.oneCell' = true) : Kd.C (Kd.raw 7) (w.alloc (.cells cs.toArray 25)) (some ⟨n, 0, none⟩) 1 [cs] := by
  subst hn
  exact (Kd.R_reads' (one_raw w w.heap.size cs hl h1 (Nat.le_refl _))).2.2
theorem ag_filter_next {p : S25 → Bool} {l : List S25} {i : Nat} (h : i < l.length) : (l.take (i + 1)).filter p = if p (rd_T25 l (i : Int)) = true then (l.take i).filter p ++ [rd_T25 l (i : Int)] else (l.take i).filter p := by
  have e : l[i]? = some (rd_T25 l (i : Int)) := by simp only [rd_T25, Int.toNat_natCast, List.getD_eq_getElem?_getD, List.getElem?_eq_getElem h, Option.getD_some]
  rw [List.take_add_one, e, List.filter_append]
  show (l.take i).filter p ++ [rd_T25 l (i : Int)].filter p = _
  by_cases q : p (rd_T25 l (i : Int)) = true
  · rw [if_pos q]; simp [q]
  · rw [if_neg q]; simp [q]
set_option maxHeartbeats 16000000 in
set_option maxRecDepth 100000 in
theorem damsonref10_with.callsS (k : Nat) (A0 : Option Addr) (c0 : Nat) (l : List S25) (d : S25) (A1 : Option Addr) (c1 : Nat) (r : List S25) (w : World) (hr0 : Kd.C k25 w A0 l.length l) (hc0 : l.length ≤ c0) (hr1 : Kd.C k44 w A1 d.f5.length d.f5) (hc1 : d.f5.length ≤ c1) (h : damsonref10_with.g k l d = some r) :
    Calls Try.prog 113 #[.slice A0 l.length c0, .agg #[.int .u64 d.f0, .int .u64 d.f1, .int .u64 d.f2, .int .u64 d.f3, .int .u64 d.f4, .slice A1 d.f5.length c1, .bool d.f6]] w fun e w' => ∃ A c, e = .returned (.slice A r.length c) ∧ r.length ≤ c ∧ Kd.C k25 w' A r.length r ∧ Below w.heap.size w w' := by
  have HR0 := aM_ hr0
  have HC0 := aM_ hc0
  have HR1 := aM_ hr1
  have HC1 := aM_ hc1
  clear hr0 hc0 hr1 hc1
  unfold damsonref10_with.g at h
  by_cases hll : l.length < 100000
  case neg => rw [if_neg hll] at h; cases h
  rw [if_pos hll] at h
  have HF := aM_ h
  clear h
  have HLL := aM_ hll
  have HWB := aM_ ((Below.refl w.heap.size w).alloc (Nat.le_refl _) (.cells #[.int .u64 d.f0, .int .u64 d.f1, .int .u64 d.f2, .int .u64 d.f3, .int .u64 d.f4, .slice A1 d.f5.length c1, .bool d.f6] 25))
  have KD0 := aM_ (blk_new w (.cells #[.int .u64 d.f0, .int .u64 d.f1, .int .u64 d.f2, .int .u64 d.f3, .int .u64 d.f4, .slice A1 d.f5.length c1, .bool d.f6] 25))
  go_enter Try.func113, Try.ntmps113
  go_wp2
  generalize w.alloc (.cells #[.int .u64 d.f0, .int .u64 d.f1, .int .u64 d.f2, .int .u64 d.f3, .int .u64 d.f4, .slice A1 d.f5.length c1, .bool d.f6] 25) = W0 at HWB KD0 ⊢
  go_loopw [12, 5] (fun vi v5 wr => ∃ (i : Nat) (rows : List (List Value)), i ≤ l.length ∧ vi = .int .i64 i ∧ Aside0 (RowsAt w ( ((l.take i).filter (fun x => decide (x.f0 < d.f0)))) rows) ∧ Aside0 (rows.length ≤ 0 + i) ∧ Aside0 (Kd.R (Kd.raw 7) 25 wr W0.heap.size (fun _ => True) v5 rows) ∧ Aside0 (Below W0.heap.size W0 wr)) (fun vi _ _ => l.length - (intOf vi).toNat)
  case atStart => exact ⟨0, [], Nat.zero_le _, rfl, ⟨⟨rfl, fun j x hj => by simp at hj⟩⟩, ⟨Nat.zero_le _⟩, ⟨Kd.R_nil _ _ _ _ _⟩, ⟨Below.refl _ _⟩⟩
  case round =>
   obtain ⟨i, rows, hi, rfl, HRW, HRL, HO, HBW⟩ := hrel
   have HB := aM_ (below_step HWB.out HBW.out)
   have KD := aM_ (blk_below KD0.out HBW.out)
   by_cases hil : i < l.length
   case neg =>
    obtain rfl : i = l.length := by omega
    have hrw := HRW.out
    rw [List.take_of_length_le (Nat.le_refl _)] at hrw
    replace HRW := aM_ hrw
    clear hrw
    obtain ⟨Av, cv, hv⟩ := Kd.R_slice HO.out
    subst hv
    obtain ⟨hy0, hy1, hy2, hy3, hy4, hy5, hy6, hy7, hy8, hy9, hy10, hy11, hy12, hy13⟩ := cz7_ KD.out
    have HOC := aM_ (ag_one7 wr wr.heap.size rfl [.int .u64 d.f0, .int .u64 d.f1, .int .u64 d.f2, .int .u64 d.f3, .int .u64 d.f4, .slice A1 d.f5.length c1, .bool d.f6] rfl (by intro u hu; simp at hu; rcases hu with rfl | rfl | rfl | rfl | rfl | rfl | rfl <;> rfl))
    have HAO := aM_ (Kd.R_alloc HO.out (.cells #[.int .u64 d.f0, .int .u64 d.f1, .int .u64 d.f2, .int .u64 d.f3, .int .u64 d.f4, .slice A1 d.f5.length c1, .bool d.f6] 25))
    have HAB := aM_ (HBW.out.alloc HBW.out.size (.cells #[.int .u64 d.f0, .int .u64 d.f1, .int .u64 d.f2, .int .u64 d.f3, .int .u64 d.f4, .slice A1 d.f5.length c1, .bool d.f6] 25))
    have HAL : Aside0 ((rows.length + 1) * 72 ≤ 140737488355328) := ⟨by have := HRL.out; have := HLL.out; omega⟩
    have HW2 := aM_ (RowsAt.snoc (x := d) (cs := [.int .u64 d.f0, .int .u64 d.f1, .int .u64 d.f2, .int .u64 d.f3, .int .u64 d.f4, .slice A1 d.f5.length c1, .bool d.f6]) HRW.out ⟨A1, c1, rfl, HC1.out, HR1.out⟩)
    have HN2 : Aside0 ((rows ++ [([.int .u64 d.f0, .int .u64 d.f1, .int .u64 d.f2, .int .u64 d.f3, .int .u64 d.f4, .slice A1 d.f5.length c1, .bool d.f6] : List Value)]).length ≤ l.length + 1 + 0) := ⟨by rw [List.length_append, List.length_singleton]; have := HRL.out; omega⟩
    go_wp2_with ((with_reducible refine gate_builtin (b := .append) (xs := #[.tmp 26, .tmp 28]) rfl ?_); at_builtin; refine Kd.R_append_rows (Kd.raw 7) (w0 := W0) W0.heap.size rfl (.tmp 26) (.tmp 28) 47 25 (.agg #[(.int .u64 0), (.int .u64 0), (.int .u64 0), (.int .u64 0), (.int .u64 0), (.slice none 0 0), (.bool false)]) 72 rfl Try.underlying47 info25 rfl (by decide) (by omega) (.slice Av rows.length cv) rows [[.int .u64 d.f0, .int .u64 d.f1, .int .u64 d.f2, .int .u64 d.f3, .int .u64 d.f4, .slice A1 d.f5.length c1, .bool d.f6]] _ _ _ (fun _ => True) (fun _ => False) rfl rfl ?aO ?aR (fun _ _ h => h) (fun _ h => h.elim) (fun _ _ => trivial) ?aB ?aS ?aL ?_; (case aO => exact HAO.out); (case aR => exact HOC.out); (case aB => exact HAB.out); (case aS => exact (HAB.out).size); (case aL => exact HAL.out); intro v2 w6 ho hb hg hat; have HO6 := aM_ ho; have HB6 := aM_ hb; clear ho hb hg hat)
    clear HOC HAO HAB HAL HO HB HBW KD HRW HRL
    clear hy0 hy1 hy2 hy3 hy4 hy5 hy6 hy7 hy8 hy9 hy10 hy11 hy12 hy13
    generalize rows ++ [([.int .u64 d.f0, .int .u64 d.f1, .int .u64 d.f2, .int .u64 d.f3, .int .u64 d.f4, .slice A1 d.f5.length c1, .bool d.f6] : List Value)] = rows2 at HO6 HW2 HN2
    go_loopw [32, 5] (fun vi v5 wr => ∃ (i : Nat) (rows : List (List Value)), i ≤ l.length ∧ vi = .int .i64 i ∧ Aside0 (RowsAt w (damsonref10_with.lo d l ++ [d] ++ ((l.take i).filter (fun x => decide (d.f0 < x.f0)))) rows) ∧ Aside0 (rows.length ≤ (l.length + 1) + i) ∧ Aside0 (Kd.R (Kd.raw 7) 25 wr W0.heap.size (fun _ => True) v5 rows) ∧ Aside0 (Below W0.heap.size W0 wr)) (fun vi _ _ => l.length - (intOf vi).toNat)
    case atStart => exact ⟨0, rows2, Nat.zero_le _, rfl, ⟨by show RowsAt w (damsonref10_with.lo d l ++ [d] ++ []) _; rw [List.append_nil]; exact HW2.out⟩, ⟨HN2.out⟩, HO6, HB6⟩
    case round =>
     obtain ⟨i, rows, hi, rfl, HRW, HRL, HO, HBW⟩ := hrel
     have HB := aM_ (below_step HWB.out HBW.out)
     have KD := aM_ (blk_below KD0.out HBW.out)
     by_cases hil : i < l.length
     case neg =>
      obtain rfl : i = l.length := by omega
      have hrw := HRW.out
      rw [List.take_of_length_le (Nat.le_refl _)] at hrw
      replace HRW := aM_ hrw
      clear hrw
      obtain ⟨Av, cv, hv⟩ := Kd.R_slice HO.out
      subst hv
      obtain ⟨hy0, hy1, hy2, hy3, hy4, hy5, hy6, hy7, hy8, hy9, hy10, hy11, hy12, hy13⟩ := cz7_ KD.out
      have hF := HF.out
      have hrw2 : RowsAt w (damsonref10_with.lo d l ++ [d] ++ damsonref10_with.hi d l) rows := HRW.out
      generalize damsonref10_with.lo d l ++ [d] ++ damsonref10_with.hi d l = xs at hF hrw2
      obtain ⟨Ar, cr, hv, hcr, hCr⟩ := hrw2.C HO.out HB.out
      injection hv with hv1 hv2 hv3
      subst hv1 hv3
      rw [hv2]
      have HCr := aM_ hCr
      have HCc := aM_ hcr
      have HFx := aM_ hF
      clear hCr hcr hv2 HF hF hrw2 HRW HRL HO
      clear hy0 hy1 hy2 hy3 hy4 hy5 hy6 hy7 hy8 hy9 hy10 hy11 hy12 hy13
      go_wp2_with (go_at_call 59; (refine (damsonref10_Copy.calls k Av cv xs r wr HCr.out HCc.out HFx.out).mono ?_; rintro e w7 ⟨v, rfl, ho, hb⟩; clear HFx; have HOv := aM_ ho; have HB7 := aM_ (below_step HB.out hb); clear ho hb))
      obtain ⟨Az, cz, ev⟩ := Kd.S_slice HOv.out
      subst ev
      have hs := Kd.S_reads' HOv.out
      go_ret
      exact ⟨Az, cz, rfl, hs.2.1, hs.2.2, HB7.out⟩
     obtain ⟨ad, A5, c5, ea, hx0, hx1, hx2, hx3, hx4, hx5, hx6, hl5, hi5⟩ := at_T25 HR0.out (i : Int) (by omega) (by omega)
     subst ea
     have hfn := ag_filter_next (p := fun x => decide (d.f0 < x.f0)) hil
     obtain ⟨x, hx⟩ : ∃ x, x = rd_T25 l (i : Int) := ⟨_, rfl⟩
     simp only [← hx, Int.toNat_natCast] at hx0 hx1 hx2 hx3 hx4 hx5 hx6 hl5 hi5 hfn
     have HCX : Aside0 (Ch0 w x [.int .u64 x.f0, .int .u64 x.f1, .int .u64 x.f2, .int .u64 x.f3, .int .u64 x.f4, .slice A5 x.f5.length c5, .bool x.f6]) := ⟨⟨A5, c5, rfl, hl5, hi5⟩⟩
     clear hx hl5 hi5
     replace hx0 := cN_ HB hx0
     replace hx1 := cN_ HB hx1
     replace hx2 := cN_ HB hx2
     replace hx3 := cN_ HB hx3
     replace hx4 := cN_ HB hx4
     replace hx5 := cN_ HB hx5
     replace hx6 := cN_ HB hx6
     obtain ⟨hy0, hy1, hy2, hy3, hy4, hy5, hy6, hy7, hy8, hy9, hy10, hy11, hy12, hy13⟩ := cz7_ KD.out
     have hlt := blk_lt KD.out
     obtain ⟨Av, cv, hv⟩ := Kd.R_slice HO.out
     subst hv
     have hal := (Below.refl wr.heap.size wr).alloc (Nat.le_refl _) (.cells #[.int .u64 x.f0, .int .u64 x.f1, .int .u64 x.f2, .int .u64 x.f3, .int .u64 x.f4, .slice A5 x.f5.length c5, .bool x.f6] 25)
     have HBa := aM_ (below_then HBW.out HBW.out.size hal)
     clear hal
     by_cases hcmp : d.f0 < x.f0
     · have hfn2 : (l.take (i + 1)).filter (fun x => decide (d.f0 < x.f0)) = (l.take i).filter (fun x => decide (d.f0 < x.f0)) ++ [x] := by rw [hfn, if_pos (decide_eq_true hcmp)]
       have HFN := aM_ hfn2
       have hcb : decide (d.f0 < x.f0) = true := decide_eq_true hcmp
       clear hfn hfn2 hcmp
       have HOC := aM_ (ag_one7 (wr.alloc (.cells #[.int .u64 x.f0, .int .u64 x.f1, .int .u64 x.f2, .int .u64 x.f3, .int .u64 x.f4, .slice A5 x.f5.length c5, .bool x.f6] 25)) (wr.heap.size + 1) (by simp) [.int .u64 x.f0, .int .u64 x.f1, .int .u64 x.f2, .int .u64 x.f3, .int .u64 x.f4, .slice A5 x.f5.length c5, .bool x.f6] rfl (by intro u hu; simp at hu; rcases hu with rfl | rfl | rfl | rfl | rfl | rfl | rfl <;> rfl))
       have HAO := aM_ (Kd.R_alloc (Kd.R_alloc HO.out (.cells #[.int .u64 x.f0, .int .u64 x.f1, .int .u64 x.f2, .int .u64 x.f3, .int .u64 x.f4, .slice A5 x.f5.length c5, .bool x.f6] 25)) (.cells #[.int .u64 x.f0, .int .u64 x.f1, .int .u64 x.f2, .int .u64 x.f3, .int .u64 x.f4, .slice A5 x.f5.length c5, .bool x.f6] 25))
       have HAB := aM_ (HBa.out.alloc HBa.out.size (.cells #[.int .u64 x.f0, .int .u64 x.f1, .int .u64 x.f2, .int .u64 x.f3, .int .u64 x.f4, .slice A5 x.f5.length c5, .bool x.f6] 25))
       have HAL : Aside0 ((rows.length + 1) * 72 ≤ 140737488355328) := ⟨by have := HRL.out; have := HLL.out; omega⟩
       go_wp2_with ((with_reducible refine gate_builtin (b := .append) (xs := #[.tmp 41, .tmp 43]) rfl ?_); at_builtin; refine Kd.R_append_rows (Kd.raw 7) (w0 := W0) W0.heap.size rfl (.tmp 41) (.tmp 43) 47 25 (.agg #[(.int .u64 0), (.int .u64 0), (.int .u64 0), (.int .u64 0), (.int .u64 0), (.slice none 0 0), (.bool false)]) 72 rfl Try.underlying47 info25 rfl (by decide) (by omega) (.slice Av rows.length cv) rows [[.int .u64 x.f0, .int .u64 x.f1, .int .u64 x.f2, .int .u64 x.f3, .int .u64 x.f4, .slice A5 x.f5.length c5, .bool x.f6]] _ _ _ (fun _ => True) (fun _ => False) rfl rfl ?aO ?aR (fun _ _ h => h) (fun _ h => h.elim) (fun _ _ => trivial) ?aB ?aS ?aL ?_; (case aO => exact HAO.out); (case aR => exact HOC.out); (case aB => exact HAB.out); (case aS => exact (HAB.out).size); (case aL => exact HAL.out); intro v2 w6 ho hb hg hat; have HO6 := aM_ ho; have HB6 := aM_ hb; clear ho hb hg hat)
       go_roundw
       case rel => exact ⟨i + 1, rows ++ [[.int .u64 x.f0, .int .u64 x.f1, .int .u64 x.f2, .int .u64 x.f3, .int .u64 x.f4, .slice A5 x.f5.length c5, .bool x.f6]], by omega, by go_num, ⟨by rw [HFN.out]; rw [← List.append_assoc]; exact HRW.out.snoc HCX.out⟩, ⟨by rw [List.length_append, List.length_singleton]; have := HRL.out; omega⟩, HO6, HB6⟩
       case measure => simp [intOf]; omega
     · have hfn2 : (l.take (i + 1)).filter (fun x => decide (d.f0 < x.f0)) = (l.take i).filter (fun x => decide (d.f0 < x.f0)) := by rw [hfn, if_neg (by simpa using hcmp)]
       have HFN := aM_ hfn2
       have hcb : decide (d.f0 < x.f0) = false := decide_eq_false hcmp
       clear hfn hfn2 hcmp
       go_wp2
       go_roundw
       case rel => exact ⟨i + 1, rows, by omega, by go_num, ⟨by rw [HFN.out]; exact HRW.out⟩, ⟨by have := HRL.out; omega⟩, ⟨Kd.R_alloc HO.out _⟩, HBa⟩
       case measure => simp [intOf]; omega
   obtain ⟨ad, A5, c5, ea, hx0, hx1, hx2, hx3, hx4, hx5, hx6, hl5, hi5⟩ := at_T25 HR0.out (i : Int) (by omega) (by omega)
   subst ea
   have hfn := ag_filter_next (p := fun x => decide (x.f0 < d.f0)) hil
   obtain ⟨x, hx⟩ : ∃ x, x = rd_T25 l (i : Int) := ⟨_, rfl⟩
   simp only [← hx, Int.toNat_natCast] at hx0 hx1 hx2 hx3 hx4 hx5 hx6 hl5 hi5 hfn
   have HCX : Aside0 (Ch0 w x [.int .u64 x.f0, .int .u64 x.f1, .int .u64 x.f2, .int .u64 x.f3, .int .u64 x.f4, .slice A5 x.f5.length c5, .bool x.f6]) := ⟨⟨A5, c5, rfl, hl5, hi5⟩⟩
   clear hx hl5 hi5
   replace hx0 := cN_ HB hx0
   replace hx1 := cN_ HB hx1
   replace hx2 := cN_ HB hx2
   replace hx3 := cN_ HB hx3
   replace hx4 := cN_ HB hx4
   replace hx5 := cN_ HB hx5
   replace hx6 := cN_ HB hx6
   obtain ⟨hy0, hy1, hy2, hy3, hy4, hy5, hy6, hy7, hy8, hy9, hy10, hy11, hy12, hy13⟩ := cz7_ KD.out
   have hlt := blk_lt KD.out
   obtain ⟨Av, cv, hv⟩ := Kd.R_slice HO.out
   subst hv
   have hal := (Below.refl wr.heap.size wr).alloc (Nat.le_refl _) (.cells #[.int .u64 x.f0, .int .u64 x.f1, .int .u64 x.f2, .int .u64 x.f3, .int .u64 x.f4, .slice A5 x.f5.length c5, .bool x.f6] 25)
   have HBa := aM_ (below_then HBW.out HBW.out.size hal)
   clear hal
   by_cases hcmp : x.f0 < d.f0
   · have hfn2 : (l.take (i + 1)).filter (fun x => decide (x.f0 < d.f0)) = (l.take i).filter (fun x => decide (x.f0 < d.f0)) ++ [x] := by rw [hfn, if_pos (decide_eq_true hcmp)]
     have HFN := aM_ hfn2
     have hcb : decide (x.f0 < d.f0) = true := decide_eq_true hcmp
     clear hfn hfn2 hcmp
     have HOC := aM_ (ag_one7 (wr.alloc (.cells #[.int .u64 x.f0, .int .u64 x.f1, .int .u64 x.f2, .int .u64 x.f3, .int .u64 x.f4, .slice A5 x.f5.length c5, .bool x.f6] 25)) (wr.heap.size + 1) (by simp) [.int .u64 x.f0, .int .u64 x.f1, .int .u64 x.f2, .int .u64 x.f3, .int .u64 x.f4, .slice A5 x.f5.length c5, .bool x.f6] rfl (by intro u hu; simp at hu; rcases hu with rfl | rfl | rfl | rfl | rfl | rfl | rfl <;> rfl))
     have HAO := aM_ (Kd.R_alloc (Kd.R_alloc HO.out (.cells #[.int .u64 x.f0, .int .u64 x.f1, .int .u64 x.f2, .int .u64 x.f3, .int .u64 x.f4, .slice A5 x.f5.length c5, .bool x.f6] 25)) (.cells #[.int .u64 x.f0, .int .u64 x.f1, .int .u64 x.f2, .int .u64 x.f3, .int .u64 x.f4, .slice A5 x.f5.length c5, .bool x.f6] 25))
     have HAB := aM_ (HBa.out.alloc HBa.out.size (.cells #[.int .u64 x.f0, .int .u64 x.f1, .int .u64 x.f2, .int .u64 x.f3, .int .u64 x.f4, .slice A5 x.f5.length c5, .bool x.f6] 25))
     have HAL : Aside0 ((rows.length + 1) * 72 ≤ 140737488355328) := ⟨by have := HRL.out; have := HLL.out; omega⟩
     go_wp2_with ((with_reducible refine gate_builtin (b := .append) (xs := #[.tmp 21, .tmp 23]) rfl ?_); at_builtin; refine Kd.R_append_rows (Kd.raw 7) (w0 := W0) W0.heap.size rfl (.tmp 21) (.tmp 23) 47 25 (.agg #[(.int .u64 0), (.int .u64 0), (.int .u64 0), (.int .u64 0), (.int .u64 0), (.slice none 0 0), (.bool false)]) 72 rfl Try.underlying47 info25 rfl (by decide) (by omega) (.slice Av rows.length cv) rows [[.int .u64 x.f0, .int .u64 x.f1, .int .u64 x.f2, .int .u64 x.f3, .int .u64 x.f4, .slice A5 x.f5.length c5, .bool x.f6]] _ _ _ (fun _ => True) (fun _ => False) rfl rfl ?aO ?aR (fun _ _ h => h) (fun _ h => h.elim) (fun _ _ => trivial) ?aB ?aS ?aL ?_; (case aO => exact HAO.out); (case aR => exact HOC.out); (case aB => exact HAB.out); (case aS => exact (HAB.out).size); (case aL => exact HAL.out); intro v2 w6 ho hb hg hat; have HO6 := aM_ ho; have HB6 := aM_ hb; clear ho hb hg hat)
     go_roundw
     case rel => exact ⟨i + 1, rows ++ [[.int .u64 x.f0, .int .u64 x.f1, .int .u64 x.f2, .int .u64 x.f3, .int .u64 x.f4, .slice A5 x.f5.length c5, .bool x.f6]], by omega, by go_num, ⟨by rw [HFN.out]; exact HRW.out.snoc HCX.out⟩, ⟨by rw [List.length_append, List.length_singleton]; have := HRL.out; omega⟩, HO6, HB6⟩
     case measure => simp [intOf]; omega
   · have hfn2 : (l.take (i + 1)).filter (fun x => decide (x.f0 < d.f0)) = (l.take i).filter (fun x => decide (x.f0 < d.f0)) := by rw [hfn, if_neg (by simpa using hcmp)]
     have HFN := aM_ hfn2
     have hcb : decide (x.f0 < d.f0) = false := decide_eq_false hcmp
     clear hfn hfn2 hcmp
     go_wp2
     go_roundw
     case rel => exact ⟨i + 1, rows, by omega, by go_num, ⟨by rw [HFN.out]; exact HRW.out⟩, ⟨by have := HRL.out; omega⟩, ⟨Kd.R_alloc HO.out _⟩, HBa⟩
     case measure => simp [intOf]; omega

/-! ### damsonref10_Open: function 60 (by hand) -/
def damsonref10_Open.g (k : Nat) (l : List S25) (c : S25) : Option (List S25 × Int) := (damsonref10_Check.f k l).bind fun e => if e = 0 then (damsonref09_Check.f k c.f0 c.f1 c.f2 c.f3 c.f4 c.f5 c.f6).bind fun d => if d = 0 then if c.f6 = true then if c.f5.length = 0 then
  (damsonref10_find.f k l c.f0).bind fun i => if i < 0 then if l.length = 32 then some ([], 7) else (damsonref10_with.g k l c).bind fun o => (damsonref10_all.f k o).bind fun a => if a.2 = true then some (o, 0) else some ([], 8)
  else some ([], 6) else some ([], 1) else some ([], 1) else some ([], 1) else some ([], 1)
theorem damsonref10_Open.mono_g (l : List S25) (c : S25) (k : Nat) : LeO (damsonref10_Open.g k l c) (damsonref10_Open.g (k + 1) l c) := by
  unfold damsonref10_Open.g
  repeat' first
    | (with_reducible exact LeO.refl _)
    | apply damsonref10_Check.mono
    | apply damsonref09_Check.mono
    | apply damsonref10_find.mono
    | apply damsonref10_all.mono
    | apply damsonref10_with.mono_g
    | (with_reducible refine LeO.ite ?_ ?_)
    | (with_reducible refine LeO.bind ?_ (fun _ => ?_))
set_option maxHeartbeats 16000000 in
set_option maxRecDepth 100000 in
theorem damsonref10_Open.callsS (k : Nat) (A0 : Option Addr) (c0 : Nat) (l : List S25) (c : S25) (A1 : Option Addr) (c1 : Nat) (r : List S25) (er : Int) (w : World) (hr0 : Kd.C k25 w A0 l.length l) (hc0 : l.length ≤ c0) (hr1 : Kd.C k44 w A1 c.f5.length c.f5) (hc1 : c.f5.length ≤ c1) (h : damsonref10_Open.g k l c = some (r, er)) :
    Calls Try.prog 60 #[.slice A0 l.length c0, .agg #[.int .u64 c.f0, .int .u64 c.f1, .int .u64 c.f2, .int .u64 c.f3, .int .u64 c.f4, .slice A1 c.f5.length c1, .bool c.f6]] w fun e w' => ∃ A c, e = .returned (.tuple #[.slice A r.length c, .int .i64 er]) ∧ r.length ≤ c ∧ Kd.C k25 w' A r.length r ∧ Below w.heap.size w w' := by
  have HR0 := aM_ hr0
  have HC0 := aM_ hc0
  have HR1 := aM_ hr1
  have HC1 := aM_ hc1
  clear hr0 hc0 hr1 hc1
  have HB := aM_ ((Below.refl w.heap.size w).alloc (Nat.le_refl _) (.cells #[.int .u64 c.f0, .int .u64 c.f1, .int .u64 c.f2, .int .u64 c.f3, .int .u64 c.f4, .slice A1 c.f5.length c1, .bool c.f6] 25))
  have K1 := aM_ (blk_new w (.cells #[.int .u64 c.f0, .int .u64 c.f1, .int .u64 c.f2, .int .u64 c.f3, .int .u64 c.f4, .slice A1 c.f5.length c1, .bool c.f6] 25))
  unfold damsonref10_Open.g at h
  obtain ⟨e, h1, h_⟩ := oB_ h
  replace h := h_
  clear h_
  have HF1 := aM_ h1
  clear h1
  by_cases hc : e = 0
  case neg =>
    rw [if_neg hc] at h
    have he1 : (e != 0) = true := bne_iff_ne.mpr hc
    clear hc
    injection h with h
    injection h with h1 h2
    subst h1 h2
    go_enter Try.func60, Try.ntmps60
    go_wp2_with (((go_at_call 55; refine (damsonref10_Check.calls k A0 c0 l e _ (Kd.C_below HR0.out HB.out) HC0.out HF1.out).mono ?_; rintro e w1 ⟨rfl, hb⟩; clear HF1; replace HB := aM_ (below_then HB.out HB.out.size hb); replace K1 := aM_ (blk_below K1.out hb); obtain ⟨hy0, hy1, hy2, hy3, hy4, hy5, hy6, hy7, hy8, hy9, hy10, hy11, hy12, hy13⟩ := cz7_ K1.out; clear hb)))
    go_ret2
    exact ⟨none, 0, rfl, Nat.zero_le _, ag_nil25 _, HB.out⟩
  rw [if_pos hc] at h
  subst hc
  obtain ⟨d, h1, h_⟩ := oB_ h
  replace h := h_
  clear h_
  have HF2 := aM_ h1
  clear h1
  by_cases hc : d = 0
  case neg =>
    rw [if_neg hc] at h
    have he2 : (d != 0) = true := bne_iff_ne.mpr hc
    clear hc
    injection h with h
    injection h with h1 h2
    subst h1 h2
    go_enter Try.func60, Try.ntmps60
    go_wp2_with (first | (go_at_call 55; refine (damsonref10_Check.calls k A0 c0 l 0 _ (Kd.C_below HR0.out HB.out) HC0.out HF1.out).mono ?_; rintro e w1 ⟨rfl, hb⟩; clear HF1; replace HB := aM_ (below_then HB.out HB.out.size hb); replace K1 := aM_ (blk_below K1.out hb); obtain ⟨hy0, hy1, hy2, hy3, hy4, hy5, hy6, hy7, hy8, hy9, hy10, hy11, hy12, hy13⟩ := cz7_ K1.out; clear hb) | (go_at_call 34; clear hy0 hy1 hy2 hy3 hy4 hy5 hy6 hy7 hy8 hy9 hy10 hy11 hy12 hy13; refine (damsonref09_Check.calls k c.f0 c.f1 c.f2 c.f3 c.f4 A1 c1 c.f5 c.f6 d _ (Kd.C_below HR1.out HB.out) HC1.out HF2.out).mono ?_; rintro e w2 ⟨rfl, hb⟩; clear HF2; replace HB := aM_ (below_then HB.out HB.out.size hb); replace K1 := aM_ (blk_below K1.out hb); obtain ⟨hy0, hy1, hy2, hy3, hy4, hy5, hy6, hy7, hy8, hy9, hy10, hy11, hy12, hy13⟩ := cz7_ K1.out; clear hb))
    go_ret2
    exact ⟨none, 0, rfl, Nat.zero_le _, ag_nil25 _, HB.out⟩
  rw [if_pos hc] at h
  subst hc
  by_cases hc : c.f6 = true
  case neg =>
    rw [if_neg hc] at h
    have hop : c.f6 = false := by simpa using hc
    have HOP := aM_ hop
    clear hc hop
    injection h with h
    injection h with h1 h2
    subst h1 h2
    go_enter Try.func60, Try.ntmps60
    go_wp2_with (first | (go_at_call 55; refine (damsonref10_Check.calls k A0 c0 l 0 _ (Kd.C_below HR0.out HB.out) HC0.out HF1.out).mono ?_; rintro e w1 ⟨rfl, hb⟩; clear HF1; replace HB := aM_ (below_then HB.out HB.out.size hb); replace K1 := aM_ (blk_below K1.out hb); obtain ⟨hy0, hy1, hy2, hy3, hy4, hy5, hy6, hy7, hy8, hy9, hy10, hy11, hy12, hy13⟩ := cz7_ K1.out; clear hb) | (go_at_call 34; clear hy0 hy1 hy2 hy3 hy4 hy5 hy6 hy7 hy8 hy9 hy10 hy11 hy12 hy13; refine (damsonref09_Check.calls k c.f0 c.f1 c.f2 c.f3 c.f4 A1 c1 c.f5 c.f6 0 _ (Kd.C_below HR1.out HB.out) HC1.out HF2.out).mono ?_; rintro e w2 ⟨rfl, hb⟩; clear HF2; replace HB := aM_ (below_then HB.out HB.out.size hb); replace K1 := aM_ (blk_below K1.out hb); obtain ⟨hy0, hy1, hy2, hy3, hy4, hy5, hy6, hy7, hy8, hy9, hy10, hy11, hy12, hy13⟩ := cz7_ K1.out; have hop := HOP.out; clear hb))
    go_ret2
    exact ⟨none, 0, rfl, Nat.zero_le _, ag_nil25 _, HB.out⟩
  rw [if_pos hc] at h
  have HOP := aM_ hc
  clear hc
  by_cases hc : c.f5.length = 0
  case neg =>
    rw [if_neg hc] at h
    have hl5b : decide ((0 : Int) < (c.f5.length : Int)) = true := decide_eq_true (by omega)
    have hl5n : decide (0 < c.f5.length) = true := decide_eq_true (by omega)
    clear hc
    injection h with h
    injection h with h1 h2
    subst h1 h2
    go_enter Try.func60, Try.ntmps60
    go_wp2_with (first | (go_at_call 55; refine (damsonref10_Check.calls k A0 c0 l 0 _ (Kd.C_below HR0.out HB.out) HC0.out HF1.out).mono ?_; rintro e w1 ⟨rfl, hb⟩; clear HF1; replace HB := aM_ (below_then HB.out HB.out.size hb); replace K1 := aM_ (blk_below K1.out hb); obtain ⟨hy0, hy1, hy2, hy3, hy4, hy5, hy6, hy7, hy8, hy9, hy10, hy11, hy12, hy13⟩ := cz7_ K1.out; clear hb) | (go_at_call 34; clear hy0 hy1 hy2 hy3 hy4 hy5 hy6 hy7 hy8 hy9 hy10 hy11 hy12 hy13; refine (damsonref09_Check.calls k c.f0 c.f1 c.f2 c.f3 c.f4 A1 c1 c.f5 c.f6 0 _ (Kd.C_below HR1.out HB.out) HC1.out HF2.out).mono ?_; rintro e w2 ⟨rfl, hb⟩; clear HF2; replace HB := aM_ (below_then HB.out HB.out.size hb); replace K1 := aM_ (blk_below K1.out hb); obtain ⟨hy0, hy1, hy2, hy3, hy4, hy5, hy6, hy7, hy8, hy9, hy10, hy11, hy12, hy13⟩ := cz7_ K1.out; have hop := HOP.out; clear hb))
    go_ret2
    exact ⟨none, 0, rfl, Nat.zero_le _, ag_nil25 _, HB.out⟩
  rw [if_pos hc] at h
  have hl5b : decide ((0 : Int) < (c.f5.length : Int)) = false := decide_eq_false (by omega)
  have hl5n : decide (0 < c.f5.length) = false := decide_eq_false (by omega)
  clear hc
  obtain ⟨i, h1, h_⟩ := oB_ h
  replace h := h_
  clear h_
  have HF3 := aM_ h1
  clear h1
  by_cases hc : i < 0
  case neg =>
    rw [if_neg hc] at h
    have hi1 : decide (0 ≤ i) = true := decide_eq_true (by omega)
    clear hc
    injection h with h
    injection h with h1 h2
    subst h1 h2
    go_enter Try.func60, Try.ntmps60
    go_wp2_with (first | (go_at_call 55; refine (damsonref10_Check.calls k A0 c0 l 0 _ (Kd.C_below HR0.out HB.out) HC0.out HF1.out).mono ?_; rintro e w1 ⟨rfl, hb⟩; clear HF1; replace HB := aM_ (below_then HB.out HB.out.size hb); replace K1 := aM_ (blk_below K1.out hb); obtain ⟨hy0, hy1, hy2, hy3, hy4, hy5, hy6, hy7, hy8, hy9, hy10, hy11, hy12, hy13⟩ := cz7_ K1.out; clear hb) | (go_at_call 34; clear hy0 hy1 hy2 hy3 hy4 hy5 hy6 hy7 hy8 hy9 hy10 hy11 hy12 hy13; refine (damsonref09_Check.calls k c.f0 c.f1 c.f2 c.f3 c.f4 A1 c1 c.f5 c.f6 0 _ (Kd.C_below HR1.out HB.out) HC1.out HF2.out).mono ?_; rintro e w2 ⟨rfl, hb⟩; clear HF2; replace HB := aM_ (below_then HB.out HB.out.size hb); replace K1 := aM_ (blk_below K1.out hb); obtain ⟨hy0, hy1, hy2, hy3, hy4, hy5, hy6, hy7, hy8, hy9, hy10, hy11, hy12, hy13⟩ := cz7_ K1.out; have hop := HOP.out; clear hb) | (go_at_call 106; clear hy0 hy1 hy2 hy3 hy4 hy5 hy6 hy7 hy8 hy9 hy10 hy11 hy12 hy13; clear hop; refine (damsonref10_find.calls k A0 c0 l c.f0 i _ (Kd.C_below HR0.out HB.out) HC0.out HF3.out).mono ?_; rintro e w3 ⟨rfl, hb⟩; clear HF3; replace HB := aM_ (below_then HB.out HB.out.size hb); replace K1 := aM_ (blk_below K1.out hb); obtain ⟨hy0, hy1, hy2, hy3, hy4, hy5, hy6, hy7, hy8, hy9, hy10, hy11, hy12, hy13⟩ := cz7_ K1.out; clear hb))
    go_ret2
    exact ⟨none, 0, rfl, Nat.zero_le _, ag_nil25 _, HB.out⟩
  rw [if_pos hc] at h
  have hi1 : decide (0 ≤ i) = false := decide_eq_false (by omega)
  clear hc
  by_cases hc : l.length = 32
  case pos =>
    rw [if_pos hc] at h
    have hn1 : ((l.length : Int) == 32) = true := beq_iff_eq.mpr (by omega)
    have hn2 : (l.length == 32) = true := beq_iff_eq.mpr hc
    clear hc
    injection h with h
    injection h with h1 h2
    subst h1 h2
    go_enter Try.func60, Try.ntmps60
    go_wp2_with (first | (go_at_call 55; refine (damsonref10_Check.calls k A0 c0 l 0 _ (Kd.C_below HR0.out HB.out) HC0.out HF1.out).mono ?_; rintro e w1 ⟨rfl, hb⟩; clear HF1; replace HB := aM_ (below_then HB.out HB.out.size hb); replace K1 := aM_ (blk_below K1.out hb); obtain ⟨hy0, hy1, hy2, hy3, hy4, hy5, hy6, hy7, hy8, hy9, hy10, hy11, hy12, hy13⟩ := cz7_ K1.out; clear hb) | (go_at_call 34; clear hy0 hy1 hy2 hy3 hy4 hy5 hy6 hy7 hy8 hy9 hy10 hy11 hy12 hy13; refine (damsonref09_Check.calls k c.f0 c.f1 c.f2 c.f3 c.f4 A1 c1 c.f5 c.f6 0 _ (Kd.C_below HR1.out HB.out) HC1.out HF2.out).mono ?_; rintro e w2 ⟨rfl, hb⟩; clear HF2; replace HB := aM_ (below_then HB.out HB.out.size hb); replace K1 := aM_ (blk_below K1.out hb); obtain ⟨hy0, hy1, hy2, hy3, hy4, hy5, hy6, hy7, hy8, hy9, hy10, hy11, hy12, hy13⟩ := cz7_ K1.out; have hop := HOP.out; clear hb) | (go_at_call 106; clear hy0 hy1 hy2 hy3 hy4 hy5 hy6 hy7 hy8 hy9 hy10 hy11 hy12 hy13; clear hop; refine (damsonref10_find.calls k A0 c0 l c.f0 i _ (Kd.C_below HR0.out HB.out) HC0.out HF3.out).mono ?_; rintro e w3 ⟨rfl, hb⟩; clear HF3; replace HB := aM_ (below_then HB.out HB.out.size hb); replace K1 := aM_ (blk_below K1.out hb); obtain ⟨hy0, hy1, hy2, hy3, hy4, hy5, hy6, hy7, hy8, hy9, hy10, hy11, hy12, hy13⟩ := cz7_ K1.out; clear hb))
    go_ret2
    exact ⟨none, 0, rfl, Nat.zero_le _, ag_nil25 _, HB.out⟩
  rw [if_neg hc] at h
  have hn1 : ((l.length : Int) == 32) = false := beq_eq_false_iff_ne.mpr (by omega)
  have hn2 : (l.length == 32) = false := beq_eq_false_iff_ne.mpr hc
  clear hc
  obtain ⟨x, h1, h_⟩ := oB_ h
  replace h := h_
  clear h_
  have HF4 := aM_ h1
  clear h1
  obtain ⟨⟨a, b⟩, h1, h_⟩ := oB_ h
  replace h := h_
  clear h_
  have HF5 := aM_ h1
  clear h1
  try dsimp only at h
  by_cases hc : b = true
  case neg =>
    rw [if_neg hc] at h
    obtain rfl : b = false := by simpa using hc
    clear hc
    injection h with h
    injection h with h1 h2
    subst h1 h2
    go_enter Try.func60, Try.ntmps60
    go_wp2_with (first | (go_at_call 55; refine (damsonref10_Check.calls k A0 c0 l 0 _ (Kd.C_below HR0.out HB.out) HC0.out HF1.out).mono ?_; rintro e w1 ⟨rfl, hb⟩; clear HF1; replace HB := aM_ (below_then HB.out HB.out.size hb); replace K1 := aM_ (blk_below K1.out hb); obtain ⟨hy0, hy1, hy2, hy3, hy4, hy5, hy6, hy7, hy8, hy9, hy10, hy11, hy12, hy13⟩ := cz7_ K1.out; clear hb) | (go_at_call 34; clear hy0 hy1 hy2 hy3 hy4 hy5 hy6 hy7 hy8 hy9 hy10 hy11 hy12 hy13; refine (damsonref09_Check.calls k c.f0 c.f1 c.f2 c.f3 c.f4 A1 c1 c.f5 c.f6 0 _ (Kd.C_below HR1.out HB.out) HC1.out HF2.out).mono ?_; rintro e w2 ⟨rfl, hb⟩; clear HF2; replace HB := aM_ (below_then HB.out HB.out.size hb); replace K1 := aM_ (blk_below K1.out hb); obtain ⟨hy0, hy1, hy2, hy3, hy4, hy5, hy6, hy7, hy8, hy9, hy10, hy11, hy12, hy13⟩ := cz7_ K1.out; have hop := HOP.out; clear hb) | (go_at_call 106; clear hy0 hy1 hy2 hy3 hy4 hy5 hy6 hy7 hy8 hy9 hy10 hy11 hy12 hy13; clear hop; refine (damsonref10_find.calls k A0 c0 l c.f0 i _ (Kd.C_below HR0.out HB.out) HC0.out HF3.out).mono ?_; rintro e w3 ⟨rfl, hb⟩; clear HF3; replace HB := aM_ (below_then HB.out HB.out.size hb); replace K1 := aM_ (blk_below K1.out hb); obtain ⟨hy0, hy1, hy2, hy3, hy4, hy5, hy6, hy7, hy8, hy9, hy10, hy11, hy12, hy13⟩ := cz7_ K1.out; clear hb) | (go_at_call 113; clear hy0 hy1 hy2 hy3 hy4 hy5 hy6 hy7 hy8 hy9 hy10 hy11 hy12 hy13; refine (damsonref10_with.callsS k A0 c0 l c A1 c1 x _ (Kd.C_below HR0.out HB.out) HC0.out (Kd.C_below HR1.out HB.out) HC1.out HF4.out).mono ?_; rintro e w4 ⟨Ax, cx, rfl, hcx, hx, hb⟩; clear HF4; replace HB := aM_ (below_then HB.out HB.out.size hb); replace K1 := aM_ (blk_below K1.out hb); have HCx := aM_ hcx; have HRx := aM_ hx; clear hb hcx hx) | (go_at_call 109; refine (damsonref10_all.calls k Ax cx x a false _ HRx.out HCx.out HF5.out).mono ?_; rintro e w5 ⟨rfl, hb⟩; clear HF5; replace HB := aM_ (below_then HB.out HB.out.size hb); replace K1 := aM_ (blk_below K1.out hb); replace HRx := aM_ (Kd.C_below HRx.out hb); clear hb))
    go_ret2
    exact ⟨none, 0, rfl, Nat.zero_le _, ag_nil25 _, HB.out⟩
  rw [if_pos hc] at h
  subst hc
  injection h with h
  injection h with h1 h2
  subst h1 h2
  go_enter Try.func60, Try.ntmps60
  go_wp2_with (first | (go_at_call 55; refine (damsonref10_Check.calls k A0 c0 l 0 _ (Kd.C_below HR0.out HB.out) HC0.out HF1.out).mono ?_; rintro e w1 ⟨rfl, hb⟩; clear HF1; replace HB := aM_ (below_then HB.out HB.out.size hb); replace K1 := aM_ (blk_below K1.out hb); obtain ⟨hy0, hy1, hy2, hy3, hy4, hy5, hy6, hy7, hy8, hy9, hy10, hy11, hy12, hy13⟩ := cz7_ K1.out; clear hb) | (go_at_call 34; clear hy0 hy1 hy2 hy3 hy4 hy5 hy6 hy7 hy8 hy9 hy10 hy11 hy12 hy13; refine (damsonref09_Check.calls k c.f0 c.f1 c.f2 c.f3 c.f4 A1 c1 c.f5 c.f6 0 _ (Kd.C_below HR1.out HB.out) HC1.out HF2.out).mono ?_; rintro e w2 ⟨rfl, hb⟩; clear HF2; replace HB := aM_ (below_then HB.out HB.out.size hb); replace K1 := aM_ (blk_below K1.out hb); obtain ⟨hy0, hy1, hy2, hy3, hy4, hy5, hy6, hy7, hy8, hy9, hy10, hy11, hy12, hy13⟩ := cz7_ K1.out; have hop := HOP.out; clear hb) | (go_at_call 106; clear hy0 hy1 hy2 hy3 hy4 hy5 hy6 hy7 hy8 hy9 hy10 hy11 hy12 hy13; clear hop; refine (damsonref10_find.calls k A0 c0 l c.f0 i _ (Kd.C_below HR0.out HB.out) HC0.out HF3.out).mono ?_; rintro e w3 ⟨rfl, hb⟩; clear HF3; replace HB := aM_ (below_then HB.out HB.out.size hb); replace K1 := aM_ (blk_below K1.out hb); obtain ⟨hy0, hy1, hy2, hy3, hy4, hy5, hy6, hy7, hy8, hy9, hy10, hy11, hy12, hy13⟩ := cz7_ K1.out; clear hb) | (go_at_call 113; clear hy0 hy1 hy2 hy3 hy4 hy5 hy6 hy7 hy8 hy9 hy10 hy11 hy12 hy13; refine (damsonref10_with.callsS k A0 c0 l c A1 c1 x _ (Kd.C_below HR0.out HB.out) HC0.out (Kd.C_below HR1.out HB.out) HC1.out HF4.out).mono ?_; rintro e w4 ⟨Ax, cx, rfl, hcx, hx, hb⟩; clear HF4; replace HB := aM_ (below_then HB.out HB.out.size hb); replace K1 := aM_ (blk_below K1.out hb); have HCx := aM_ hcx; have HRx := aM_ hx; clear hb hcx hx) | (go_at_call 109; refine (damsonref10_all.calls k Ax cx x a true _ HRx.out HCx.out HF5.out).mono ?_; rintro e w5 ⟨rfl, hb⟩; clear HF5; replace HB := aM_ (below_then HB.out HB.out.size hb); replace K1 := aM_ (blk_below K1.out hb); replace HRx := aM_ (Kd.C_below HRx.out hb); clear hb))
  go_ret2
  exact ⟨Ax, cx, rfl, HCx.out, HRx.out, HB.out⟩

/-! ### channel_Close: function 37 -/
def channel_Close.f (k : Nat) (a0_0 : Int) (a0_1 : Int) (a0_2 : Int) (a0_3 : Int) (a0_4 : Int) (l0_5 : List (S44)) (a0_6 : Bool) : Option (Int × Int × Int × Int × Int × (List (S44)) × Bool × Int) := (channel_Check.f k a0_0 a0_1 a0_2 a0_3 a0_4 l0_5 a0_6).bind fun t324 => (if t324 = 0 then (if a0_6 = true then (if (l0_5.length : Int) > 0 then (some (0, 0, 0, 0, 0, ([] : List (S44)), false, 10)) else (some (a0_0, a0_1, a0_2, a0_3, a0_4, ([] : List (S44)), false, 0))) else (some (0, 0, 0, 0, 0, ([] : List (S44)), false, 14))) else (some (0, 0, 0, 0, 0, ([] : List (S44)), false, 1)))
theorem channel_Close.mono : ∀ a0 a1 a2 a3 a4 a5 a6 k, LeO (channel_Close.f k a0 a1 a2 a3 a4 a5 a6) (channel_Close.f (k + 1) a0 a1 a2 a3 a4 a5 a6) := by
  intro a0 a1 a2 a3 a4 a5 a6 k
  unfold channel_Close.f
  repeat' first
      | (with_reducible exact channel_Check.mono _ _ _ _ _ _ _ _)
      | (with_reducible exact LeO.refl _)
      | (with_reducible refine LeO.bind ?_ (fun _ => ?_))
      | exact channel_Check.mono _ _ _ _ _ _ _ _
      | exact LeO.none _
      | refine LeO.ite ?_ ?_
      | refine LeO.bind ?_ (fun _ => ?_)
set_option maxHeartbeats 8000000 in
set_option maxRecDepth 100000 in
theorem channel_Close.calls (k : Nat) (a0_0 : Int) (a0_1 : Int) (a0_2 : Int) (a0_3 : Int) (a0_4 : Int) (A0_5 : Option Addr) (c0_5 : Nat) (l0_5 : List (S44)) (a0_6 : Bool) (r1 : Int) (r2 : Int) (r3 : Int) (r4 : Int) (r5 : Int) (r6 : List (S44)) (r7 : Bool) (r8 : Int) (w : World) (hr0_5 : Kd.C k44 w A0_5 l0_5.length l0_5) (hc0_5 : l0_5.length ≤ c0_5) (h : channel_Close.f k a0_0 a0_1 a0_2 a0_3 a0_4 l0_5 a0_6 = some (r1, r2, r3, r4, r5, r6, r7, r8)) :
    Calls Try.prog 37 #[.agg #[.int .u64 a0_0, .int .u64 a0_1, .int .u64 a0_2, .int .u64 a0_3, .int .u64 a0_4, .slice A0_5 l0_5.length c0_5, .bool a0_6]] w fun e w' => ∃ v5_ : Value, e = .returned (.tuple #[.agg #[.int .u64 r1, .int .u64 r2, .int .u64 r3, .int .u64 r4, .int .u64 r5, v5_, .bool r7], .int .i64 r8]) ∧ Kd.R k44 44 w' w.heap.size (fun _ => True) v5_ r6 ∧ Below w.heap.size w w' := by
  have hu25 := Try.underlying25
  have HR0_5 := aM_ hr0_5
  have HC0_5 := aM_ hc0_5
  clear hr0_5 hc0_5
  have HB := aM_ (Below.refl w.heap.size w)
  have H : ((channel_Check.f k a0_0 a0_1 a0_2 a0_3 a0_4 l0_5 a0_6).bind fun t324 => (if t324 = 0 then (if a0_6 = true then (if (l0_5.length : Int) > 0 then (some (0, 0, 0, 0, 0, ([] : List (S44)), false, 10)) else (some (a0_0, a0_1, a0_2, a0_3, a0_4, ([] : List (S44)), false, 0))) else (some (0, 0, 0, 0, 0, ([] : List (S44)), false, 14))) else (some (0, 0, 0, 0, 0, ([] : List (S44)), false, 1)))) = some (r1, r2, r3, r4, r5, r6, r7, r8) := h
  clear h
  replace H := oB_ H
  obtain ⟨t324, A20, H⟩ := H
  replace H : (if t324 = 0 then (if a0_6 = true then (if (l0_5.length : Int) > 0 then (some (0, 0, 0, 0, 0, ([] : List (S44)), false, 10)) else (some (a0_0, a0_1, a0_2, a0_3, a0_4, ([] : List (S44)), false, 0))) else (some (0, 0, 0, 0, 0, ([] : List (S44)), false, 14))) else (some (0, 0, 0, 0, 0, ([] : List (S44)), false, 1))) = some (r1, r2, r3, r4, r5, r6, r7, r8) := H
  have A2 := aM_ A20
  clear A20
  by_cases c3 : t324 = 0
  · rw [if_pos c3] at H
    have c3b0 : (t324 == 0) = true := beq_iff_eq.mpr c3
    have c3b1 : (t324 != 0) = false := bne_eq_false_iff_eq.mpr c3
    clear c3
    by_cases c4 : a0_6 = true
    · subst c4
      have H1 : (if (l0_5.length : Int) > 0 then (some (0, 0, 0, 0, 0, ([] : List (S44)), false, 10)) else (some (a0_0, a0_1, a0_2, a0_3, a0_4, ([] : List (S44)), false, 0))) = some (r1, r2, r3, r4, r5, r6, r7, r8) := by rw [if_pos rfl] at H; exact H
      clear H
      have H := H1
      clear H1
      by_cases c5 : (l0_5.length : Int) > 0
      · rw [if_pos c5] at H
        have c5b0 : decide (0 < (l0_5.length : Int)) = true := decide_eq_true c5
        have c5b1 : decide (0 < l0_5.length) = true := decide_eq_true (by omega)
        clear c5
        simp only [Option.some.injEq, Prod.mk.injEq] at H
        obtain ⟨rfl, rfl, rfl, rfl, rfl, rfl, rfl, rfl⟩ := H
        go_enter Try.func37, Try.ntmps37
        go_wp2_with (first | ((with_reducible refine gate_dst (N := 1) rfl ?_); refine box_event ?hg (N := 1) ?hd (cs := #[.int .u64 a0_0, .int .u64 a0_1, .int .u64 a0_2, .int .u64 a0_3, .int .u64 a0_4, .slice A0_5 l0_5.length c0_5, .bool true]) (t := 25) ?hr ?_; (case hd => rfl); (case hg => rfl); (case hr => ((go_simp; done))); intro gb322 hg w6 hbox hb; have BK322 := aM_ (hbox); have GW322 := aM_ (geN HB hg); have GE322 := aM_ (geN HB hg); replace HB := bsA_ HB hb; clear hb hbox hg) | ((with_reducible refine gate_dst (N := 2) rfl ?_); refine box_event ?hg (N := 2) ?hd (cs := #[.int .u64 0, .int .u64 0, .int .u64 0, .int .u64 0, .int .u64 0, .slice none 0 0, .bool false]) (t := 25) ?hr ?_; (case hd => rfl); (case hg => rfl); (case hr => ((go_simp; done))); intro gb323 hg w7 hbox hb; have BK323 := aM_ (hbox); have GW323 := aM_ (geN HB hg); have GE323 := aM_ (geN HB hg); replace HB := bsA_ HB hb; have NB322_323 := aM_ (neN BK322 hg); have NB323_322 := aM_ (neN' BK322 hg); replace BK322 := bbA_ BK322 hb; clear hb hbox hg; have hnb8 := NB322_323.out; have hnc8 := NB323_322.out; obtain ⟨hcz9_0, hcz9_1, hcz9_2, hcz9_3, hcz9_4, hcz9_5, hcz9_6, hfz9_0, hfz9_1, hfz9_2, hfz9_3, hfz9_4, hfz9_5, hfz9_6⟩ := cz7_ (w := w7) BK322.out) | ((with_reducible refine gate_callee (f := 33) rfl ?_); refine gL_ 6 Try.func33 #[.agg #[.int .u64 a0_0, .int .u64 a0_1, .int .u64 a0_2, .int .u64 a0_3, .int .u64 a0_4, .slice A0_5 l0_5.length c0_5, .bool true]] ?_; (with_reducible refine (channel_Check.calls k a0_0 a0_1 a0_2 a0_3 a0_4 _ _ l0_5 true t324 _ ?side1 ?side2 A2.out).mono ?_); (case side1 => repeat ((exact (Kd.C_below HR0_5.out HB.out)))); (case side2 => exact HC0_5.out); rintro e w10 ⟨rfl, hb⟩; refine ⟨_, rfl, ?_⟩; replace BK322 := bbA_ BK322 hb; replace BK323 := bbA_ BK323 hb; replace HB := bsA_ HB hb; (try clear hb); (try clear hb2); (try clear hk); (try clear hi); obtain ⟨hcz11_0, hcz11_1, hcz11_2, hcz11_3, hcz11_4, hcz11_5, hcz11_6, hfz11_0, hfz11_1, hfz11_2, hfz11_3, hfz11_4, hfz11_5, hfz11_6⟩ := cz7_ (w := w10) BK322.out; obtain ⟨hcz12_0, hcz12_1, hcz12_2, hcz12_3, hcz12_4, hcz12_5, hcz12_6, hfz12_0, hfz12_1, hfz12_2, hfz12_3, hfz12_4, hfz12_5, hfz12_6⟩ := cz7_ (w := w10) BK323.out))
        refine bodyPost_ret (results_ct rfl _ _ gb323 25 #[.int .u64 0, .int .u64 0, .int .u64 0, .int .u64 0, .int .u64 0, .slice none 0 0, .bool false] (0, 0) _ rfl (by (with_reducible repeat (first | refine blk_drewN ?_ _ | refine blk_drew ?_ | refine blk_alloc ?_ _)); apply bp7_; (with_reducible repeat (first | refine blk_drewN ?_ _ | refine blk_drew ?_ | refine blk_alloc ?_ _)); exact BK323.out) Try.underlying25 rfl (by kernel_rfl)) rfl ?_
        exact ⟨_, by (rfl), by (exact Kd.R_nil _ _ _ _ _), by repeat (((with_reducible first | exact HB.out | refine below_set ?_ GE323.out)))⟩
      · rw [if_neg c5] at H
        have c5b0 : decide (0 < (l0_5.length : Int)) = false := decide_eq_false c5
        have c5b1 : decide (0 < l0_5.length) = false := decide_eq_false (by omega)
        clear c5
        simp only [Option.some.injEq, Prod.mk.injEq] at H
        obtain ⟨rfl, rfl, rfl, rfl, rfl, rfl, rfl, rfl⟩ := H
        go_enter Try.func37, Try.ntmps37
        go_wp2_with (first | ((with_reducible refine gate_dst (N := 1) rfl ?_); refine box_event ?hg (N := 1) ?hd (cs := #[.int .u64 a0_0, .int .u64 a0_1, .int .u64 a0_2, .int .u64 a0_3, .int .u64 a0_4, .slice A0_5 l0_5.length c0_5, .bool true]) (t := 25) ?hr ?_; (case hd => rfl); (case hg => rfl); (case hr => ((go_simp; done))); intro gb322 hg w13 hbox hb; have BK322 := aM_ (hbox); have GW322 := aM_ (geN HB hg); have GE322 := aM_ (geN HB hg); replace HB := bsA_ HB hb; clear hb hbox hg) | ((with_reducible refine gate_dst (N := 2) rfl ?_); refine box_event ?hg (N := 2) ?hd (cs := #[.int .u64 0, .int .u64 0, .int .u64 0, .int .u64 0, .int .u64 0, .slice none 0 0, .bool false]) (t := 25) ?hr ?_; (case hd => rfl); (case hg => rfl); (case hr => ((go_simp; done))); intro gb323 hg w14 hbox hb; have BK323 := aM_ (hbox); have GW323 := aM_ (geN HB hg); have GE323 := aM_ (geN HB hg); replace HB := bsA_ HB hb; have NB322_323 := aM_ (neN BK322 hg); have NB323_322 := aM_ (neN' BK322 hg); replace BK322 := bbA_ BK322 hb; clear hb hbox hg; have hnb15 := NB322_323.out; have hnc15 := NB323_322.out; obtain ⟨hcz16_0, hcz16_1, hcz16_2, hcz16_3, hcz16_4, hcz16_5, hcz16_6, hfz16_0, hfz16_1, hfz16_2, hfz16_3, hfz16_4, hfz16_5, hfz16_6⟩ := cz7_ (w := w14) BK322.out) | ((with_reducible refine gate_callee (f := 33) rfl ?_); refine gL_ 6 Try.func33 #[.agg #[.int .u64 a0_0, .int .u64 a0_1, .int .u64 a0_2, .int .u64 a0_3, .int .u64 a0_4, .slice A0_5 l0_5.length c0_5, .bool true]] ?_; (with_reducible refine (channel_Check.calls k a0_0 a0_1 a0_2 a0_3 a0_4 _ _ l0_5 true t324 _ ?side1 ?side2 A2.out).mono ?_); (case side1 => repeat ((exact (Kd.C_below HR0_5.out HB.out)))); (case side2 => exact HC0_5.out); rintro e w17 ⟨rfl, hb⟩; refine ⟨_, rfl, ?_⟩; replace BK322 := bbA_ BK322 hb; replace BK323 := bbA_ BK323 hb; replace HB := bsA_ HB hb; (try clear hb); (try clear hb2); (try clear hk); (try clear hi); obtain ⟨hcz18_0, hcz18_1, hcz18_2, hcz18_3, hcz18_4, hcz18_5, hcz18_6, hfz18_0, hfz18_1, hfz18_2, hfz18_3, hfz18_4, hfz18_5, hfz18_6⟩ := cz7_ (w := w17) BK322.out; obtain ⟨hcz19_0, hcz19_1, hcz19_2, hcz19_3, hcz19_4, hcz19_5, hcz19_6, hfz19_0, hfz19_1, hfz19_2, hfz19_3, hfz19_4, hfz19_5, hfz19_6⟩ := cz7_ (w := w17) BK323.out))
        refine bodyPost_ret (results_ct rfl _ _ gb323 25 #[.int .u64 a0_0, .int .u64 a0_1, .int .u64 a0_2, .int .u64 a0_3, .int .u64 a0_4, .slice none 0 0, .bool false] (0, 0) _ rfl (by (with_reducible repeat (first | refine blk_drewN ?_ _ | refine blk_drew ?_ | refine blk_alloc ?_ _)); apply bp7_; (with_reducible repeat (first | refine blk_drewN ?_ _ | refine blk_drew ?_ | refine blk_alloc ?_ _)); refine blk_far ?_ NB323_322.out _; (with_reducible repeat (first | refine blk_drewN ?_ _ | refine blk_drew ?_ | refine blk_alloc ?_ _)); refine blk_far ?_ NB323_322.out _; (with_reducible repeat (first | refine blk_drewN ?_ _ | refine blk_drew ?_ | refine blk_alloc ?_ _)); exact BK323.out) Try.underlying25 rfl (by kernel_rfl)) rfl ?_
        exact ⟨_, by (rfl), by (exact Kd.R_nil _ _ _ _ _), by repeat (((with_reducible first | exact HB.out | refine below_set ?_ GE322.out | refine below_set ?_ GE323.out)))⟩
    · replace c4 := Bool.eq_false_iff.mpr c4
      subst c4
      have H1 : (some (0, 0, 0, 0, 0, ([] : List (S44)), false, 14)) = some (r1, r2, r3, r4, r5, r6, r7, r8) := by rw [if_neg (show ¬ (false = true) by decide)] at H; exact H
      clear H
      have H := H1
      clear H1
      simp only [Option.some.injEq, Prod.mk.injEq] at H
      obtain ⟨rfl, rfl, rfl, rfl, rfl, rfl, rfl, rfl⟩ := H
      go_enter Try.func37, Try.ntmps37
      go_wp2_with (first | ((with_reducible refine gate_dst (N := 1) rfl ?_); refine box_event ?hg (N := 1) ?hd (cs := #[.int .u64 a0_0, .int .u64 a0_1, .int .u64 a0_2, .int .u64 a0_3, .int .u64 a0_4, .slice A0_5 l0_5.length c0_5, .bool false]) (t := 25) ?hr ?_; (case hd => rfl); (case hg => rfl); (case hr => ((go_simp; done))); intro gb322 hg w20 hbox hb; have BK322 := aM_ (hbox); have GW322 := aM_ (geN HB hg); have GE322 := aM_ (geN HB hg); replace HB := bsA_ HB hb; clear hb hbox hg) | ((with_reducible refine gate_dst (N := 2) rfl ?_); refine box_event ?hg (N := 2) ?hd (cs := #[.int .u64 0, .int .u64 0, .int .u64 0, .int .u64 0, .int .u64 0, .slice none 0 0, .bool false]) (t := 25) ?hr ?_; (case hd => rfl); (case hg => rfl); (case hr => ((go_simp; done))); intro gb323 hg w21 hbox hb; have BK323 := aM_ (hbox); have GW323 := aM_ (geN HB hg); have GE323 := aM_ (geN HB hg); replace HB := bsA_ HB hb; have NB322_323 := aM_ (neN BK322 hg); have NB323_322 := aM_ (neN' BK322 hg); replace BK322 := bbA_ BK322 hb; clear hb hbox hg; have hnb22 := NB322_323.out; have hnc22 := NB323_322.out; obtain ⟨hcz23_0, hcz23_1, hcz23_2, hcz23_3, hcz23_4, hcz23_5, hcz23_6, hfz23_0, hfz23_1, hfz23_2, hfz23_3, hfz23_4, hfz23_5, hfz23_6⟩ := cz7_ (w := w21) BK322.out) | ((with_reducible refine gate_callee (f := 33) rfl ?_); refine gL_ 6 Try.func33 #[.agg #[.int .u64 a0_0, .int .u64 a0_1, .int .u64 a0_2, .int .u64 a0_3, .int .u64 a0_4, .slice A0_5 l0_5.length c0_5, .bool false]] ?_; (with_reducible refine (channel_Check.calls k a0_0 a0_1 a0_2 a0_3 a0_4 _ _ l0_5 false t324 _ ?side1 ?side2 A2.out).mono ?_); (case side1 => repeat ((exact (Kd.C_below HR0_5.out HB.out)))); (case side2 => exact HC0_5.out); rintro e w24 ⟨rfl, hb⟩; refine ⟨_, rfl, ?_⟩; replace BK322 := bbA_ BK322 hb; replace BK323 := bbA_ BK323 hb; replace HB := bsA_ HB hb; (try clear hb); (try clear hb2); (try clear hk); (try clear hi); obtain ⟨hcz25_0, hcz25_1, hcz25_2, hcz25_3, hcz25_4, hcz25_5, hcz25_6, hfz25_0, hfz25_1, hfz25_2, hfz25_3, hfz25_4, hfz25_5, hfz25_6⟩ := cz7_ (w := w24) BK322.out; obtain ⟨hcz26_0, hcz26_1, hcz26_2, hcz26_3, hcz26_4, hcz26_5, hcz26_6, hfz26_0, hfz26_1, hfz26_2, hfz26_3, hfz26_4, hfz26_5, hfz26_6⟩ := cz7_ (w := w24) BK323.out))
      refine bodyPost_ret (results_ct rfl _ _ gb323 25 #[.int .u64 0, .int .u64 0, .int .u64 0, .int .u64 0, .int .u64 0, .slice none 0 0, .bool false] (0, 0) _ rfl (by (with_reducible repeat (first | refine blk_drewN ?_ _ | refine blk_drew ?_ | refine blk_alloc ?_ _)); apply bp7_; (with_reducible repeat (first | refine blk_drewN ?_ _ | refine blk_drew ?_ | refine blk_alloc ?_ _)); exact BK323.out) Try.underlying25 rfl (by kernel_rfl)) rfl ?_
      exact ⟨_, by (rfl), by (exact Kd.R_nil _ _ _ _ _), by repeat (((with_reducible first | exact HB.out | refine below_set ?_ GE323.out)))⟩
  · rw [if_neg c3] at H
    have c3b0 : (t324 == 0) = false := beq_eq_false_iff_ne.mpr c3
    have c3b1 : (t324 != 0) = true := bne_iff_ne.mpr c3
    simp only [Option.some.injEq, Prod.mk.injEq] at H
    obtain ⟨rfl, rfl, rfl, rfl, rfl, rfl, rfl, rfl⟩ := H
    go_enter Try.func37, Try.ntmps37
    go_wp2_with (first | ((with_reducible refine gate_dst (N := 1) rfl ?_); refine box_event ?hg (N := 1) ?hd (cs := #[.int .u64 a0_0, .int .u64 a0_1, .int .u64 a0_2, .int .u64 a0_3, .int .u64 a0_4, .slice A0_5 l0_5.length c0_5, .bool a0_6]) (t := 25) ?hr ?_; (case hd => rfl); (case hg => rfl); (case hr => ((go_simp; done))); intro gb322 hg w27 hbox hb; have BK322 := aM_ (hbox); have GW322 := aM_ (geN HB hg); have GE322 := aM_ (geN HB hg); replace HB := bsA_ HB hb; clear hb hbox hg) | ((with_reducible refine gate_dst (N := 2) rfl ?_); refine box_event ?hg (N := 2) ?hd (cs := #[.int .u64 0, .int .u64 0, .int .u64 0, .int .u64 0, .int .u64 0, .slice none 0 0, .bool false]) (t := 25) ?hr ?_; (case hd => rfl); (case hg => rfl); (case hr => ((go_simp; done))); intro gb323 hg w28 hbox hb; have BK323 := aM_ (hbox); have GW323 := aM_ (geN HB hg); have GE323 := aM_ (geN HB hg); replace HB := bsA_ HB hb; have NB322_323 := aM_ (neN BK322 hg); have NB323_322 := aM_ (neN' BK322 hg); replace BK322 := bbA_ BK322 hb; clear hb hbox hg; have hnb29 := NB322_323.out; have hnc29 := NB323_322.out; obtain ⟨hcz30_0, hcz30_1, hcz30_2, hcz30_3, hcz30_4, hcz30_5, hcz30_6, hfz30_0, hfz30_1, hfz30_2, hfz30_3, hfz30_4, hfz30_5, hfz30_6⟩ := cz7_ (w := w28) BK322.out) | ((with_reducible refine gate_callee (f := 33) rfl ?_); refine gL_ 6 Try.func33 #[.agg #[.int .u64 a0_0, .int .u64 a0_1, .int .u64 a0_2, .int .u64 a0_3, .int .u64 a0_4, .slice A0_5 l0_5.length c0_5, .bool a0_6]] ?_; (with_reducible refine (channel_Check.calls k a0_0 a0_1 a0_2 a0_3 a0_4 _ _ l0_5 a0_6 t324 _ ?side1 ?side2 A2.out).mono ?_); (case side1 => repeat ((exact (Kd.C_below HR0_5.out HB.out)))); (case side2 => exact HC0_5.out); rintro e w31 ⟨rfl, hb⟩; refine ⟨_, rfl, ?_⟩; replace BK322 := bbA_ BK322 hb; replace BK323 := bbA_ BK323 hb; replace HB := bsA_ HB hb; (try clear hb); (try clear hb2); (try clear hk); (try clear hi); obtain ⟨hcz32_0, hcz32_1, hcz32_2, hcz32_3, hcz32_4, hcz32_5, hcz32_6, hfz32_0, hfz32_1, hfz32_2, hfz32_3, hfz32_4, hfz32_5, hfz32_6⟩ := cz7_ (w := w31) BK323.out))
    refine bodyPost_ret (results_ct rfl _ _ gb323 25 #[.int .u64 0, .int .u64 0, .int .u64 0, .int .u64 0, .int .u64 0, .slice none 0 0, .bool false] (0, 0) _ rfl (by (with_reducible repeat (first | refine blk_drewN ?_ _ | refine blk_drew ?_ | refine blk_alloc ?_ _)); apply bp7_; (with_reducible repeat (first | refine blk_drewN ?_ _ | refine blk_drew ?_ | refine blk_alloc ?_ _)); exact BK323.out) Try.underlying25 rfl (by kernel_rfl)) rfl ?_
    exact ⟨_, by (rfl), by (exact Kd.R_nil _ _ _ _ _), by repeat (((with_reducible first | exact HB.out | refine below_set ?_ GE323.out)))⟩

/-! ### ledger_Close: function 61 (by hand) -/
def ledger_Close.how (k : Nat) (c : S25) : Option (S25 × Int) := (channel_Close.f k c.f0 c.f1 c.f2 c.f3 c.f4 c.f5 c.f6).bind fun r => some (⟨r.1, r.2.1, r.2.2.1, r.2.2.2.1, r.2.2.2.2.1, r.2.2.2.2.2.1, r.2.2.2.2.2.2.1⟩, r.2.2.2.2.2.2.2)
theorem ledger_Close.hows (k : Nat) (w : World) : HowAt w 37 [] (ledger_Close.how k) := by
  intro c A1 c1 c2 e2 w1 hb hC hl h
  unfold ledger_Close.how at h
  obtain ⟨⟨r1, r2, r3, r4, r5, r6, r7, r8⟩, h1, h_⟩ := oB_ h
  injection h_ with h_
  injection h_ with hh1 hh2
  dsimp only at hh1 hh2
  subst hh1 hh2
  show Calls Try.prog 37 #[.agg #[.int .u64 c.f0, .int .u64 c.f1, .int .u64 c.f2, .int .u64 c.f3, .int .u64 c.f4, .slice A1 c.f5.length c1, .bool c.f6]] w1 _
  refine (channel_Close.calls k c.f0 c.f1 c.f2 c.f3 c.f4 A1 c1 c.f5 c.f6 r1 r2 r3 r4 r5 r6 r7 r8 w1 hC hl h1).mono ?_
  rintro e w3 ⟨v5, rfl, ho, hb3⟩
  obtain ⟨An, cn, hv⟩ := Kd.R_slice ho
  subst hv
  exact ⟨An, cn, rfl, fun _ => ⟨An, cn, rfl, (Kd.R_reads' ho).2.1, (Kd.R_reads' ho).2.2, row44_of_R ho (Nat.le_refl _)⟩, hb3⟩
def ledger_Close.g (k : Nat) (l : List S25) (id : Int) : Option (List S25 × Int) := ledger_change.g k l id (ledger_Close.how k)
set_option maxHeartbeats 16000000 in
set_option maxRecDepth 100000 in
theorem ledger_Close.callsS (k : Nat) (A0 : Option Addr) (c0 : Nat) (l : List S25) (id : Int) (r : List S25) (er : Int) (w : World) (hr0 : Kd.C k25 w A0 l.length l) (hc0 : l.length ≤ c0) (h : ledger_Close.g k l id = some (r, er)) :
    Calls Try.prog 61 #[.slice A0 l.length c0, .int .u64 id] w fun e w' => ∃ v : Value, e = .returned (.tuple #[v, .int .i64 er]) ∧ Own25 w' w.heap.size v r ∧ Below w.heap.size w w' := by
  have HF := aM_ h
  have HR0 := aM_ hr0
  have HC0 := aM_ hc0
  clear hr0 hc0 h
  go_enter Try.func61, Try.ntmps61
  go_wp2_with (go_at_call 110; refine (ledger_change.callsS_37 k A0 c0 l id (ledger_Close.how k) r er _ HR0.out HC0.out (ledger_Close.hows k _) HF.out).mono ?_; rintro e w1 ⟨v, rfl, ho, hb⟩; have HB := aM_ hb; have HO := aM_ ho; clear ho hb)
  go_ret2
  exact ⟨_, rfl, HO.out, HB.out⟩
theorem ledger_Close.mono_how (c : S25) (k : Nat) : LeO (ledger_Close.how k c) (ledger_Close.how (k + 1) c) := by
  unfold ledger_Close.how
  exact LeO.bind (channel_Close.mono _ _ _ _ _ _ _ _) (fun _ => LeO.refl _)
theorem ledger_Close.mono_g (l : List S25) (id : Int) (k : Nat) : LeO (ledger_Close.g k l id) (ledger_Close.g (k + 1) l id) := ledger_change.mono_g l id _ _ (fun c => ledger_Close.mono_how c k) k

/-! ### damsonref09_Close: function 43 (by hand) -/
def damsonref09_Close.f (k : Nat) (a0_0 : Int) (a0_1 : Int) (a0_2 : Int) (a0_3 : Int) (a0_4 : Int) (l0_5 : List (S44)) (a0_6 : Bool) : Option (Int × Int × Int × Int × Int × (List (S44)) × Bool × Int) := (damsonref09_Check.f k a0_0 a0_1 a0_2 a0_3 a0_4 l0_5 a0_6).bind fun t => (if t = 0 then (if a0_6 = true then (if (l0_5.length : Int) > 0 then (some (0, 0, 0, 0, 0, ([] : List (S44)), false, 10)) else ((damsonref09_Copy.f a0_0 a0_1 a0_2 a0_3 a0_4 l0_5 a0_6).bind fun b => (some (b.1, b.2.1, b.2.2.1, b.2.2.2.1, b.2.2.2.2.1, b.2.2.2.2.2.1, false, 0)))) else (some (0, 0, 0, 0, 0, ([] : List (S44)), false, 14))) else (some (0, 0, 0, 0, 0, ([] : List (S44)), false, 1)))
theorem damsonref09_Close.mono : ∀ a0 a1 a2 a3 a4 a5 a6 k, LeO (damsonref09_Close.f k a0 a1 a2 a3 a4 a5 a6) (damsonref09_Close.f (k + 1) a0 a1 a2 a3 a4 a5 a6) := by
  intro a0 a1 a2 a3 a4 a5 a6 k
  unfold damsonref09_Close.f
  repeat' first
    | (with_reducible exact LeO.refl _)
    | apply damsonref09_Check.mono
    | (with_reducible refine LeO.bind ?_ (fun _ => ?_))
set_option maxHeartbeats 16000000 in
set_option maxRecDepth 100000 in
theorem damsonref09_Close.callsS (k : Nat) (c : S25) (A0 : Option Addr) (c0 : Nat) (r1 r2 r3 r4 r5 : Int) (r6 : List S44) (r7 : Bool) (r8 : Int) (w : World) (hr0 : Kd.C k44 w A0 c.f5.length c.f5) (hc0 : c.f5.length ≤ c0) (h : damsonref09_Close.f k c.f0 c.f1 c.f2 c.f3 c.f4 c.f5 c.f6 = some (r1, r2, r3, r4, r5, r6, r7, r8)) :
    Calls Try.prog 43 #[.agg #[.int .u64 c.f0, .int .u64 c.f1, .int .u64 c.f2, .int .u64 c.f3, .int .u64 c.f4, .slice A0 c.f5.length c0, .bool c.f6]] w fun e w' => ∃ v5_ : Value, e = .returned (.tuple #[.agg #[.int .u64 r1, .int .u64 r2, .int .u64 r3, .int .u64 r4, .int .u64 r5, v5_, .bool r7], .int .i64 r8]) ∧ Kd.R k44 44 w' w.heap.size (fun _ => True) v5_ r6 ∧ Below w.heap.size w w' := by
  have HR0 := aM_ hr0
  have HC0 := aM_ hc0
  clear hr0 hc0
  have HB := aM_ (((Below.refl w.heap.size w).alloc (Nat.le_refl _) (.cells #[.int .u64 c.f0, .int .u64 c.f1, .int .u64 c.f2, .int .u64 c.f3, .int .u64 c.f4, .slice A0 c.f5.length c0, .bool c.f6] 25)).alloc (by simp) (.cells #[.int .u64 0, .int .u64 0, .int .u64 0, .int .u64 0, .int .u64 0, .slice none 0 0, .bool false] 25))
  have HK := aM_ (blk_alloc (blk_new w (.cells #[.int .u64 c.f0, .int .u64 c.f1, .int .u64 c.f2, .int .u64 c.f3, .int .u64 c.f4, .slice A0 c.f5.length c0, .bool c.f6] 25)) (.cells #[.int .u64 0, .int .u64 0, .int .u64 0, .int .u64 0, .int .u64 0, .slice none 0 0, .bool false] 25))
  have HZ := aM_ (blk_new2 w (.cells #[.int .u64 c.f0, .int .u64 c.f1, .int .u64 c.f2, .int .u64 c.f3, .int .u64 c.f4, .slice A0 c.f5.length c0, .bool c.f6] 25) (.cells #[.int .u64 0, .int .u64 0, .int .u64 0, .int .u64 0, .int .u64 0, .slice none 0 0, .bool false] 25))
  unfold damsonref09_Close.f at h
  obtain ⟨t, h1, h_⟩ := oB_ h
  replace h := h_
  clear h_
  have HF1 := aM_ h1
  clear h1
  by_cases hc : t = 0
  case neg =>
    rw [if_neg hc] at h
    have he1 : (t != 0) = true := bne_iff_ne.mpr hc
    clear hc
    injection h with h
    simp only [Prod.mk.injEq] at h
    obtain ⟨rfl, rfl, rfl, rfl, rfl, rfl, rfl, rfl⟩ := h
    go_enter Try.func43, Try.ntmps43
    go_wp2_with (((go_at_call 34; refine (damsonref09_Check.calls k c.f0 c.f1 c.f2 c.f3 c.f4 A0 c0 c.f5 c.f6 t _ (Kd.C_below HR0.out HB.out) HC0.out HF1.out).mono ?_; rintro e w1 ⟨rfl, hb⟩; clear HF1; replace HB := aM_ (below_then HB.out HB.out.size hb); replace HK := aM_ (blk_below HK.out hb); replace HZ := aM_ (blk_below HZ.out hb); obtain ⟨hy0, hy1, hy2, hy3, hy4, hy5, hy6, hy7, hy8, hy9, hy10, hy11, hy12, hy13⟩ := cz7_ HZ.out; obtain ⟨hz0, hz1, hz2, hz3, hz4, hz5, hz6, hz7, hz8, hz9, hz10, hz11, hz12, hz13⟩ := cz7_ HK.out; have HZF := HZ; have HBF := HB; clear hb)))
    refine bodyPost_ret (results_ct rfl _ _ (w.heap.size + 1) 25 #[.int .u64 0, .int .u64 0, .int .u64 0, .int .u64 0, .int .u64 0, .slice none 0 0, .bool false] (0, 0) _ rfl (zero7_self HZF.out) Try.underlying25 rfl (by kernel_rfl)) rfl ?_
    exact ⟨_, rfl, Kd.R_nil _ _ _ _ _, zero7_below HBF.out (Nat.le_succ _)⟩
  rw [if_pos hc] at h
  subst hc
  by_cases hc : c.f6 = true
  case neg =>
    rw [if_neg hc] at h
    have hop : c.f6 = false := by simpa using hc
    have HOP := aM_ hop
    clear hc hop
    injection h with h
    simp only [Prod.mk.injEq] at h
    obtain ⟨rfl, rfl, rfl, rfl, rfl, rfl, rfl, rfl⟩ := h
    go_enter Try.func43, Try.ntmps43
    go_wp2_with (((go_at_call 34; refine (damsonref09_Check.calls k c.f0 c.f1 c.f2 c.f3 c.f4 A0 c0 c.f5 c.f6 0 _ (Kd.C_below HR0.out HB.out) HC0.out HF1.out).mono ?_; rintro e w1 ⟨rfl, hb⟩; clear HF1; replace HB := aM_ (below_then HB.out HB.out.size hb); replace HK := aM_ (blk_below HK.out hb); replace HZ := aM_ (blk_below HZ.out hb); obtain ⟨hy0, hy1, hy2, hy3, hy4, hy5, hy6, hy7, hy8, hy9, hy10, hy11, hy12, hy13⟩ := cz7_ HZ.out; obtain ⟨hz0, hz1, hz2, hz3, hz4, hz5, hz6, hz7, hz8, hz9, hz10, hz11, hz12, hz13⟩ := cz7_ HK.out; have HZF := HZ; have HBF := HB; have hop := HOP.out; clear hb)))
    refine bodyPost_ret (results_ct rfl _ _ (w.heap.size + 1) 25 #[.int .u64 0, .int .u64 0, .int .u64 0, .int .u64 0, .int .u64 0, .slice none 0 0, .bool false] (0, 0) _ rfl (zero7_self HZF.out) Try.underlying25 rfl (by kernel_rfl)) rfl ?_
    exact ⟨_, rfl, Kd.R_nil _ _ _ _ _, zero7_below HBF.out (Nat.le_succ _)⟩
  rw [if_pos hc] at h
  have HOP := aM_ hc
  clear hc
  by_cases hc : (c.f5.length : Int) > 0
  case pos =>
    rw [if_pos hc] at h
    have hl5b : decide ((0 : Int) < (c.f5.length : Int)) = true := decide_eq_true hc
    have hl5n : decide (0 < c.f5.length) = true := decide_eq_true (by omega)
    clear hc
    injection h with h
    simp only [Prod.mk.injEq] at h
    obtain ⟨rfl, rfl, rfl, rfl, rfl, rfl, rfl, rfl⟩ := h
    go_enter Try.func43, Try.ntmps43
    go_wp2_with (((go_at_call 34; refine (damsonref09_Check.calls k c.f0 c.f1 c.f2 c.f3 c.f4 A0 c0 c.f5 c.f6 0 _ (Kd.C_below HR0.out HB.out) HC0.out HF1.out).mono ?_; rintro e w1 ⟨rfl, hb⟩; clear HF1; replace HB := aM_ (below_then HB.out HB.out.size hb); replace HK := aM_ (blk_below HK.out hb); replace HZ := aM_ (blk_below HZ.out hb); obtain ⟨hy0, hy1, hy2, hy3, hy4, hy5, hy6, hy7, hy8, hy9, hy10, hy11, hy12, hy13⟩ := cz7_ HZ.out; obtain ⟨hz0, hz1, hz2, hz3, hz4, hz5, hz6, hz7, hz8, hz9, hz10, hz11, hz12, hz13⟩ := cz7_ HK.out; have HZF := HZ; have HBF := HB; have hop := HOP.out; clear hb)))
    refine bodyPost_ret (results_ct rfl _ _ (w.heap.size + 1) 25 #[.int .u64 0, .int .u64 0, .int .u64 0, .int .u64 0, .int .u64 0, .slice none 0 0, .bool false] (0, 0) _ rfl (zero7_self HZF.out) Try.underlying25 rfl (by kernel_rfl)) rfl ?_
    exact ⟨_, rfl, Kd.R_nil _ _ _ _ _, zero7_below HBF.out (Nat.le_succ _)⟩
  rw [if_neg hc] at h
  have hl5b : decide ((0 : Int) < (c.f5.length : Int)) = false := decide_eq_false hc
  have hl5n : decide (0 < c.f5.length) = false := decide_eq_false (by omega)
  clear hc
  obtain ⟨⟨b0, b1, b2, b3, b4, b5, b6⟩, h1, h_⟩ := oB_ h
  replace h := h_
  clear h_
  have HF2 := aM_ h1
  clear h1
  try dsimp only at h
  have hf2 := HF2.out
  rw [HOP.out] at hf2
  replace HF2 := aM_ hf2
  clear hf2
  injection h with h
  simp only [Prod.mk.injEq] at h
  obtain ⟨rfl, rfl, rfl, rfl, rfl, rfl, rfl, rfl⟩ := h
  go_enter Try.func43, Try.ntmps43
  go_upto_region 8 with (first | (go_at_call 34; refine (damsonref09_Check.calls k c.f0 c.f1 c.f2 c.f3 c.f4 A0 c0 c.f5 c.f6 0 _ (Kd.C_below HR0.out HB.out) HC0.out HF1.out).mono ?_; rintro e w1 ⟨rfl, hb⟩; clear HF1; replace HB := aM_ (below_then HB.out HB.out.size hb); replace HK := aM_ (blk_below HK.out hb); replace HZ := aM_ (blk_below HZ.out hb); obtain ⟨hy0, hy1, hy2, hy3, hy4, hy5, hy6, hy7, hy8, hy9, hy10, hy11, hy12, hy13⟩ := cz7_ HZ.out; obtain ⟨hz0, hz1, hz2, hz3, hz4, hz5, hz6, hz7, hz8, hz9, hz10, hz11, hz12, hz13⟩ := cz7_ HK.out; have HZF := HZ; have HBF := HB; have hop := HOP.out; clear hb) | (go_at_call 38; clear hy0 hy1 hy2 hy3 hy4 hy5 hy6 hy7 hy8 hy9 hy10 hy11 hy12 hy13; clear hz0 hz1 hz2 hz3 hz4 hz5 hz6 hz7 hz8 hz9 hz10 hz11 hz12 hz13; clear hop HZF HBF; have HS := aM_ (blk_lt HZ.out); refine (damsonref09_Copy.calls c.f0 c.f1 c.f2 c.f3 c.f4 A0 c0 c.f5 true b0 b1 b2 b3 b4 b5 b6 _ (Kd.C_below HR0.out HB.out) HC0.out HF2.out).mono ?_; rintro e w2 ⟨v, rfl, ho, hb⟩; clear HF2; replace HB := aM_ (below_then HB.out HB.out.size hb); replace HK := aM_ (blk_below HK.out hb); replace HZ := aM_ (blk_below HZ.out hb); obtain ⟨Ab, cb, hv⟩ := Kd.R_slice ho; subst hv; have HRb := aM_ (Kd.R_bound ho); obtain ⟨hz0, hz1, hz2, hz3, hz4, hz5, hz6, hz7, hz8, hz9, hz10, hz11, hz12, hz13⟩ := cz7_ HK.out; clear hb ho))
  rw [show (((((((w2.setCell ⟨w.heap.size, 0, none⟩ (.int .u64 b0)).setCell ⟨w.heap.size, 1, none⟩ (.int .u64 b1)).setCell ⟨w.heap.size, 2, none⟩ (.int .u64 b2)).setCell ⟨w.heap.size, 3, none⟩ (.int .u64 b3)).setCell ⟨w.heap.size, 4, none⟩ (.int .u64 b4)).setCell ⟨w.heap.size, 5, none⟩ (.slice Ab b5.length cb)).setCell ⟨w.heap.size, 6, none⟩ (.bool b6)) = put7 w2 w.heap.size (⟨b0, b1, b2, b3, b4, b5, b6⟩ : S25) (.slice Ab b5.length cb) from rfl]
  have HR3 := aM_ (put7_R (g := w.heap.size) (c := (⟨b0, b1, b2, b3, b4, b5, b6⟩ : S25)) (v := (.slice Ab b5.length cb)) HRb.out (fun k_ hk => by have := HS.out; omega))
  have HG2 := aM_ HS.out
  replace HB := aM_ (put7_below (g := w.heap.size) (c := (⟨b0, b1, b2, b3, b4, b5, b6⟩ : S25)) (v := (.slice Ab b5.length cb)) HB.out (Nat.le_refl _))
  replace HZ := aM_ (put7_far (g := w.heap.size) (c := (⟨b0, b1, b2, b3, b4, b5, b6⟩ : S25)) (v := (.slice Ab b5.length cb)) HZ.out (by omega))
  replace HK := aM_ (put7_self (c := (⟨b0, b1, b2, b3, b4, b5, b6⟩ : S25)) (v := (.slice Ab b5.length cb)) HK.out)
  clear hz0 hz1 hz2 hz3 hz4 hz5 hz6 hz7 hz8 hz9 hz10 hz11 hz12 hz13 HRb
  generalize put7 w2 w.heap.size (⟨b0, b1, b2, b3, b4, b5, b6⟩ : S25) (.slice Ab b5.length cb) = w3 at HB HZ HK HR3 ⊢
  obtain ⟨hz0, hz1, hz2, hz3, hz4, hz5, hz6, hz7, hz8, hz9, hz10, hz11, hz12, hz13⟩ := cz7_ HK.out
  obtain ⟨hy0, hy1, hy2, hy3, hy4, hy5, hy6, hy7, hy8, hy9, hy10, hy11, hy12, hy13⟩ := cz7_ HZ.out
  go_wp2
  refine bodyPost_ret (results_ct rfl _ _ (w.heap.size + 1) 25 #[.int .u64 b0, .int .u64 b1, .int .u64 b2, .int .u64 b3, .int .u64 b4, (.slice Ab b5.length cb), .bool false] (0, 0) _ rfl (put7_self (w := w3.setCell ⟨w.heap.size, 6, none⟩ (.bool false)) (c := (⟨b0, b1, b2, b3, b4, b5, false⟩ : S25)) (v := (.slice Ab b5.length cb)) (blk_far HZ.out (by show w.heap.size + 1 ≠ w.heap.size; omega) _)) Try.underlying25 rfl (by kernel_rfl)) rfl ?_
  exact ⟨_, rfl, Kd.R_mono (Kd.R_lower (put7_R (g := w.heap.size + 1) (c := (⟨b0, b1, b2, b3, b4, b5, false⟩ : S25)) (v := (.slice Ab b5.length cb)) (Kd.R_far (p := ⟨w.heap.size, 6, none⟩) HR3.out (fun k_ hk => by show k_ ≠ w.heap.size; have := HS.out; omega) _) (fun k_ hk => by have := HS.out; omega)) (by have := HS.out; omega)) (fun _ _ => trivial), put7_below (c := (⟨b0, b1, b2, b3, b4, b5, false⟩ : S25)) (v := (.slice Ab b5.length cb)) (HB.out.setCell (Nat.le_refl _) _) (Nat.le_succ _)⟩
theorem damsonref09_Close.calls (k : Nat) (a0_0 : Int) (a0_1 : Int) (a0_2 : Int) (a0_3 : Int) (a0_4 : Int) (A0_5 : Option Addr) (c0_5 : Nat) (l0_5 : List (S44)) (a0_6 : Bool) (r1 : Int) (r2 : Int) (r3 : Int) (r4 : Int) (r5 : Int) (r6 : List (S44)) (r7 : Bool) (r8 : Int) (w : World) (hr0_5 : Kd.C k44 w A0_5 l0_5.length l0_5) (hc0_5 : l0_5.length ≤ c0_5) (h : damsonref09_Close.f k a0_0 a0_1 a0_2 a0_3 a0_4 l0_5 a0_6 = some (r1, r2, r3, r4, r5, r6, r7, r8)) :
    Calls Try.prog 43 #[.agg #[.int .u64 a0_0, .int .u64 a0_1, .int .u64 a0_2, .int .u64 a0_3, .int .u64 a0_4, .slice A0_5 l0_5.length c0_5, .bool a0_6]] w fun e w' => ∃ v5_ : Value, e = .returned (.tuple #[.agg #[.int .u64 r1, .int .u64 r2, .int .u64 r3, .int .u64 r4, .int .u64 r5, v5_, .bool r7], .int .i64 r8]) ∧ Kd.R k44 44 w' w.heap.size (fun _ => True) v5_ r6 ∧ Below w.heap.size w w' :=
  damsonref09_Close.callsS k ⟨a0_0, a0_1, a0_2, a0_3, a0_4, l0_5, a0_6⟩ A0_5 c0_5 r1 r2 r3 r4 r5 r6 r7 r8 w hr0_5 hc0_5 h

/-! ### damsonref10_Get: function 49 -/
def damsonref10_Get.f (k : Nat) (l0 : List (S25)) (a1 : Int) : Option (Int × Int × Int × Int × Int × (List (S44)) × Bool × Int) := (damsonref10_Check.f k l0).bind fun t326 => (if t326 = 0 then ((damsonref10_find.f k l0 a1).bind fun t327 => (if t327 < 0 then (some (0, 0, 0, 0, 0, ([] : List (S44)), false, 5)) else (if 0 ≤ t327 then (if t327 < (l0.length : Int) then ((damsonref09_Copy.f ((rd_T25 l0 t327).f0) ((rd_T25 l0 t327).f1) ((rd_T25 l0 t327).f2) ((rd_T25 l0 t327).f3) ((rd_T25 l0 t327).f4) ((rd_T25 l0 t327).f5) ((rd_T25 l0 t327).f6)).bind fun bt329 => (some (bt329.1, bt329.2.1, bt329.2.2.1, bt329.2.2.2.1, bt329.2.2.2.2.1, bt329.2.2.2.2.2.1, bt329.2.2.2.2.2.2, 0))) else (none)) else (none)))) else (some (0, 0, 0, 0, 0, ([] : List (S44)), false, 1)))
theorem damsonref10_Get.mono : ∀ a0 a1 k, LeO (damsonref10_Get.f k a0 a1) (damsonref10_Get.f (k + 1) a0 a1) := by
  intro a0 a1 k
  unfold damsonref10_Get.f
  repeat' first
      | (with_reducible exact damsonref10_Check.mono _ _)
      | (with_reducible exact damsonref10_find.mono _ _ _)
      | (with_reducible exact LeO.refl _)
      | (with_reducible refine LeO.ite ?_ ?_)
      | (with_reducible refine LeO.bind ?_ (fun _ => ?_))
      | exact damsonref10_Check.mono _ _
      | exact damsonref10_find.mono _ _ _
      | exact LeO.none _
      | refine LeO.ite ?_ ?_
      | refine LeO.bind ?_ (fun _ => ?_)
set_option maxHeartbeats 8000000 in
set_option maxRecDepth 100000 in
theorem damsonref10_Get.calls (k : Nat) (A0 : Option Addr) (c0 : Nat) (l0 : List (S25)) (a1 : Int) (r1 : Int) (r2 : Int) (r3 : Int) (r4 : Int) (r5 : Int) (r6 : List (S44)) (r7 : Bool) (r8 : Int) (w : World) (hr0 : Kd.C k25 w A0 l0.length l0) (hc0 : l0.length ≤ c0) (h : damsonref10_Get.f k l0 a1 = some (r1, r2, r3, r4, r5, r6, r7, r8)) :
    Calls Try.prog 49 #[.slice A0 l0.length c0, .int .u64 a1] w fun e w' => ∃ v5_ : Value, e = .returned (.tuple #[.agg #[.int .u64 r1, .int .u64 r2, .int .u64 r3, .int .u64 r4, .int .u64 r5, v5_, .bool r7], .int .i64 r8]) ∧ Kd.R k44 44 w' w.heap.size (fun _ => True) v5_ r6 ∧ Below w.heap.size w w' := by
  have hu25 := Try.underlying25
  have HR0 := aM_ hr0
  have HC0 := aM_ hc0
  clear hr0 hc0
  have HB := aM_ (Below.refl w.heap.size w)
  have H : ((damsonref10_Check.f k l0).bind fun t326 => (if t326 = 0 then ((damsonref10_find.f k l0 a1).bind fun t327 => (if t327 < 0 then (some (0, 0, 0, 0, 0, ([] : List (S44)), false, 5)) else (if 0 ≤ t327 then (if t327 < (l0.length : Int) then ((damsonref09_Copy.f ((rd_T25 l0 t327).f0) ((rd_T25 l0 t327).f1) ((rd_T25 l0 t327).f2) ((rd_T25 l0 t327).f3) ((rd_T25 l0 t327).f4) ((rd_T25 l0 t327).f5) ((rd_T25 l0 t327).f6)).bind fun bt329 => (some (bt329.1, bt329.2.1, bt329.2.2.1, bt329.2.2.2.1, bt329.2.2.2.2.1, bt329.2.2.2.2.2.1, bt329.2.2.2.2.2.2, 0))) else (none)) else (none)))) else (some (0, 0, 0, 0, 0, ([] : List (S44)), false, 1)))) = some (r1, r2, r3, r4, r5, r6, r7, r8) := h
  clear h
  replace H := oB_ H
  obtain ⟨t326, A30, H⟩ := H
  replace H : (if t326 = 0 then ((damsonref10_find.f k l0 a1).bind fun t327 => (if t327 < 0 then (some (0, 0, 0, 0, 0, ([] : List (S44)), false, 5)) else (if 0 ≤ t327 then (if t327 < (l0.length : Int) then ((damsonref09_Copy.f ((rd_T25 l0 t327).f0) ((rd_T25 l0 t327).f1) ((rd_T25 l0 t327).f2) ((rd_T25 l0 t327).f3) ((rd_T25 l0 t327).f4) ((rd_T25 l0 t327).f5) ((rd_T25 l0 t327).f6)).bind fun bt329 => (some (bt329.1, bt329.2.1, bt329.2.2.1, bt329.2.2.2.1, bt329.2.2.2.2.1, bt329.2.2.2.2.2.1, bt329.2.2.2.2.2.2, 0))) else (none)) else (none)))) else (some (0, 0, 0, 0, 0, ([] : List (S44)), false, 1))) = some (r1, r2, r3, r4, r5, r6, r7, r8) := H
  have A3 := aM_ A30
  clear A30
  by_cases c4 : t326 = 0
  · rw [if_pos c4] at H
    have c4b0 : (t326 == 0) = true := beq_iff_eq.mpr c4
    have c4b1 : (t326 != 0) = false := bne_eq_false_iff_eq.mpr c4
    clear c4
    replace H := oB_ H
    obtain ⟨t327, A50, H⟩ := H
    replace H : (if t327 < 0 then (some (0, 0, 0, 0, 0, ([] : List (S44)), false, 5)) else (if 0 ≤ t327 then (if t327 < (l0.length : Int) then ((damsonref09_Copy.f ((rd_T25 l0 t327).f0) ((rd_T25 l0 t327).f1) ((rd_T25 l0 t327).f2) ((rd_T25 l0 t327).f3) ((rd_T25 l0 t327).f4) ((rd_T25 l0 t327).f5) ((rd_T25 l0 t327).f6)).bind fun bt329 => (some (bt329.1, bt329.2.1, bt329.2.2.1, bt329.2.2.2.1, bt329.2.2.2.2.1, bt329.2.2.2.2.2.1, bt329.2.2.2.2.2.2, 0))) else (none)) else (none))) = some (r1, r2, r3, r4, r5, r6, r7, r8) := H
    have A5 := aM_ A50
    clear A50
    by_cases c6 : t327 < 0
    · rw [if_pos c6] at H
      have c6b0 := decide_eq_true c6
      clear c6
      simp only [Option.some.injEq, Prod.mk.injEq] at H
      obtain ⟨rfl, rfl, rfl, rfl, rfl, rfl, rfl, rfl⟩ := H
      go_enter Try.func49, Try.ntmps49
      go_wp2_with (first | ((with_reducible refine gate_dst (N := 4) rfl ?_); refine box_event ?hg (N := 4) ?hd (cs := #[.int .u64 0, .int .u64 0, .int .u64 0, .int .u64 0, .int .u64 0, .slice none 0 0, .bool false]) (t := 25) ?hr ?_; (case hd => rfl); (case hg => rfl); (case hr => ((go_simp; done))); intro gb325 hg w7 hbox hb; have BK325 := aM_ (hbox); have GW325 := aM_ (geN HB hg); have GE325 := aM_ (geN HB hg); replace HB := bsA_ HB hb; clear hb hbox hg) | ((with_reducible refine gate_callee (f := 55) rfl ?_); refine gL_ 8 Try.func55 #[.slice A0 l0.length c0] ?_; (with_reducible refine (damsonref10_Check.calls k _ _ l0 t326 _ ?side1 ?side2 A3.out).mono ?_); (case side1 => repeat ((exact (Kd.C_below HR0.out HB.out)))); (case side2 => exact HC0.out); rintro e w8 ⟨rfl, hb⟩; refine ⟨_, rfl, ?_⟩; replace BK325 := bbA_ BK325 hb; replace HB := bsA_ HB hb; (try clear hb); (try clear hb2); (try clear hk); (try clear hi)) | ((with_reducible refine gate_callee (f := 106) rfl ?_); refine gL_ 13 Try.func106 #[.slice A0 l0.length c0, .int .u64 a1] ?_; (with_reducible refine (damsonref10_find.calls k _ _ l0 a1 t327 _ ?side1 ?side2 A5.out).mono ?_); (case side1 => repeat ((exact (Kd.C_below HR0.out HB.out)))); (case side2 => exact HC0.out); rintro e w9 ⟨rfl, hb⟩; refine ⟨_, rfl, ?_⟩; replace BK325 := bbA_ BK325 hb; replace HB := bsA_ HB hb; (try clear hb); (try clear hb2); (try clear hk); (try clear hi); obtain ⟨hcz10_0, hcz10_1, hcz10_2, hcz10_3, hcz10_4, hcz10_5, hcz10_6, hfz10_0, hfz10_1, hfz10_2, hfz10_3, hfz10_4, hfz10_5, hfz10_6⟩ := cz7_ (w := w9) BK325.out))
      refine bodyPost_ret (results_ct rfl _ _ gb325 25 #[.int .u64 0, .int .u64 0, .int .u64 0, .int .u64 0, .int .u64 0, .slice none 0 0, .bool false] (0, 0) _ rfl (by (with_reducible repeat (first | refine blk_drewN ?_ _ | refine blk_drew ?_ | refine blk_alloc ?_ _)); apply bp7_; (with_reducible repeat (first | refine blk_drewN ?_ _ | refine blk_drew ?_ | refine blk_alloc ?_ _)); exact BK325.out) Try.underlying25 rfl (by kernel_rfl)) rfl ?_
      exact ⟨_, by (rfl), by (exact Kd.R_nil _ _ _ _ _), by repeat (((with_reducible first | exact HB.out | refine below_set ?_ GE325.out)))⟩
    · rw [if_neg c6] at H
      have c6b0 := decide_eq_false c6
      clear c6
      by_cases c11 : 0 ≤ t327
      · rw [if_pos c11] at H
        have c11b0 := decide_eq_true c11
        clear c11
        by_cases c12 : t327 < (l0.length : Int)
        · rw [if_pos c12] at H
          have c12b0 := decide_eq_true c12
          clear c12
          replace H := oB_ H
          obtain ⟨⟨t329, t330, t331, t332, t333, t334, t337⟩, A130, H⟩ := H
          replace H : (some (t329, t330, t331, t332, t333, t334, t337, 0)) = some (r1, r2, r3, r4, r5, r6, r7, r8) := H
          have A13 := aM_ A130
          clear A130
          simp only [Option.some.injEq, Prod.mk.injEq] at H
          obtain ⟨rfl, rfl, rfl, rfl, rfl, rfl, rfl, rfl⟩ := H
          go_enter Try.func49, Try.ntmps49
          go_wp2_with (first | ((with_reducible refine gate_dst (N := 4) rfl ?_); refine box_event ?hg (N := 4) ?hd (cs := #[.int .u64 0, .int .u64 0, .int .u64 0, .int .u64 0, .int .u64 0, .slice none 0 0, .bool false]) (t := 25) ?hr ?_; (case hd => rfl); (case hg => rfl); (case hr => ((go_simp; done))); intro gb325 hg w14 hbox hb; have BK325 := aM_ (hbox); have GW325 := aM_ (geN HB hg); have GE325 := aM_ (geN HB hg); replace HB := bsA_ HB hb; clear hb hbox hg) | ((with_reducible refine gate_callee (f := 55) rfl ?_); refine gL_ 8 Try.func55 #[.slice A0 l0.length c0] ?_; (with_reducible refine (damsonref10_Check.calls k _ _ l0 t326 _ ?side1 ?side2 A3.out).mono ?_); (case side1 => repeat ((exact (Kd.C_below HR0.out HB.out)))); (case side2 => exact HC0.out); rintro e w15 ⟨rfl, hb⟩; refine ⟨_, rfl, ?_⟩; replace BK325 := bbA_ BK325 hb; replace HB := bsA_ HB hb; (try clear hb); (try clear hb2); (try clear hk); (try clear hi)) | ((with_reducible refine gate_callee (f := 106) rfl ?_); refine gL_ 13 Try.func106 #[.slice A0 l0.length c0, .int .u64 a1] ?_; (with_reducible refine (damsonref10_find.calls k _ _ l0 a1 t327 _ ?side1 ?side2 A5.out).mono ?_); (case side1 => repeat ((exact (Kd.C_below HR0.out HB.out)))); (case side2 => exact HC0.out); rintro e w16 ⟨rfl, hb⟩; refine ⟨_, rfl, ?_⟩; replace BK325 := bbA_ BK325 hb; replace HB := bsA_ HB hb; (try clear hb); (try clear hb2); (try clear hk); (try clear hi); have p328 : 0 ≤ (t327 : Int) := of_decide_eq_true (by ((with_reducible assumption))); have q328 : t327 < (l0.length : Int) := of_decide_eq_true (by ((with_reducible assumption))); obtain ⟨ad328, A328_5, c328_5, e328, hx328_0, hx328_1, hx328_2, hx328_3, hx328_4, hx328_5, hx328_6, hl328_5, hi328_5⟩ := at_T25 HR0.out t327 p328 q328; cases e328; replace hx328_0 := cN_ HB hx328_0; replace hx328_1 := cN_ HB hx328_1; replace hx328_2 := cN_ HB hx328_2; replace hx328_3 := cN_ HB hx328_3; replace hx328_4 := cN_ HB hx328_4; replace hx328_5 := cN_ HB hx328_5; replace hx328_6 := cN_ HB hx328_6; have HR328_5 := aM_ hi328_5; have HC328_5 := aM_ hl328_5; clear hi328_5 hl328_5; replace p328 := eq_true p328; replace q328 := eq_true q328) | ((with_reducible refine gate_callee (f := 38) rfl ?_); refine gL_ 21 Try.func38 #[.agg #[.int .u64 ((rd_T25 l0 t327).f0), .int .u64 ((rd_T25 l0 t327).f1), .int .u64 ((rd_T25 l0 t327).f2), .int .u64 ((rd_T25 l0 t327).f3), .int .u64 ((rd_T25 l0 t327).f4), .slice A328_5 ((rd_T25 l0 t327).f5).length c328_5, .bool ((rd_T25 l0 t327).f6)]] ?_; (with_reducible refine (damsonref09_Copy.calls ((rd_T25 l0 t327).f0) ((rd_T25 l0 t327).f1) ((rd_T25 l0 t327).f2) ((rd_T25 l0 t327).f3) ((rd_T25 l0 t327).f4) _ _ ((rd_T25 l0 t327).f5) ((rd_T25 l0 t327).f6) t329 t330 t331 t332 t333 t334 t337 _ ?side1 ?side2 A13.out).mono ?_); (case side1 => repeat ((exact (Kd.C_below HR328_5.out HB.out)))); (case side2 => exact HC328_5.out); rintro e w17 ⟨v335, rfl, ho0, hb⟩; refine ⟨_, rfl, ?_⟩; have HO336 := aM_ (Kd.R_lower ho0 (below_size (belN HB))); replace BK325 := bbA_ BK325 hb; replace HB := bsA_ HB hb; (try clear hb); (try clear hb2); (try clear hk); (try clear hi); (try clear ho0); obtain ⟨hcz18_0, hcz18_1, hcz18_2, hcz18_3, hcz18_4, hcz18_5, hcz18_6, hfz18_0, hfz18_1, hfz18_2, hfz18_3, hfz18_4, hfz18_5, hfz18_6⟩ := cz7_ (w := w17) BK325.out; obtain ⟨Ao19, co19, eo19⟩ := Kd.R_slice HO336.out; subst eo19))
          refine bodyPost_ret (results_ct rfl _ _ gb325 25 #[.int .u64 t329, .int .u64 t330, .int .u64 t331, .int .u64 t332, .int .u64 t333, .slice Ao19 t334.length co19, .bool t337] (0, 0) _ rfl (by (with_reducible repeat (first | refine blk_drewN ?_ _ | refine blk_drew ?_ | refine blk_alloc ?_ _)); apply bp7_; (with_reducible repeat (first | refine blk_drewN ?_ _ | refine blk_drew ?_ | refine blk_alloc ?_ _)); exact BK325.out) Try.underlying25 rfl (by kernel_rfl)) rfl ?_
          exact ⟨_, by (rfl), by (with_reducible repeat (first | apply Kd.R_alloc | apply Kd.R_drewN | apply Kd.R_drew)); exact Kd.R_mono (Kd.R_far (p := ⟨gb325, 6, none⟩) (Kd.R_far (p := ⟨gb325, 5, none⟩) (Kd.R_far (p := ⟨gb325, 4, none⟩) (Kd.R_far (p := ⟨gb325, 3, none⟩) (Kd.R_far (p := ⟨gb325, 2, none⟩) (Kd.R_far (p := ⟨gb325, 1, none⟩) (Kd.R_far (p := ⟨gb325, 0, none⟩) (Kd.R_types HO336.out BK325.out (by decide)) (fun _ hk => hk.2) (.int .u64 t329)) (fun _ hk => hk.2) (.int .u64 t330)) (fun _ hk => hk.2) (.int .u64 t331)) (fun _ hk => hk.2) (.int .u64 t332)) (fun _ hk => hk.2) (.int .u64 t333)) (fun _ hk => hk.2) (.slice Ao19 t334.length co19)) (fun _ hk => hk.2) (.bool t337)) (fun _ hk => trivial), by repeat (((with_reducible first | exact HB.out | refine below_set ?_ GE325.out)))⟩
        · rw [if_neg c12] at H
          exact absurd H (by simp)
      · rw [if_neg c11] at H
        exact absurd H (by simp)
  · rw [if_neg c4] at H
    have c4b0 : (t326 == 0) = false := beq_eq_false_iff_ne.mpr c4
    have c4b1 : (t326 != 0) = true := bne_iff_ne.mpr c4
    simp only [Option.some.injEq, Prod.mk.injEq] at H
    obtain ⟨rfl, rfl, rfl, rfl, rfl, rfl, rfl, rfl⟩ := H
    go_enter Try.func49, Try.ntmps49
    go_wp2_with (first | ((with_reducible refine gate_dst (N := 4) rfl ?_); refine box_event ?hg (N := 4) ?hd (cs := #[.int .u64 0, .int .u64 0, .int .u64 0, .int .u64 0, .int .u64 0, .slice none 0 0, .bool false]) (t := 25) ?hr ?_; (case hd => rfl); (case hg => rfl); (case hr => ((go_simp; done))); intro gb325 hg w20 hbox hb; have BK325 := aM_ (hbox); have GW325 := aM_ (geN HB hg); have GE325 := aM_ (geN HB hg); replace HB := bsA_ HB hb; clear hb hbox hg) | ((with_reducible refine gate_callee (f := 55) rfl ?_); refine gL_ 8 Try.func55 #[.slice A0 l0.length c0] ?_; (with_reducible refine (damsonref10_Check.calls k _ _ l0 t326 _ ?side1 ?side2 A3.out).mono ?_); (case side1 => repeat ((exact (Kd.C_below HR0.out HB.out)))); (case side2 => exact HC0.out); rintro e w21 ⟨rfl, hb⟩; refine ⟨_, rfl, ?_⟩; replace BK325 := bbA_ BK325 hb; replace HB := bsA_ HB hb; (try clear hb); (try clear hb2); (try clear hk); (try clear hi); obtain ⟨hcz22_0, hcz22_1, hcz22_2, hcz22_3, hcz22_4, hcz22_5, hcz22_6, hfz22_0, hfz22_1, hfz22_2, hfz22_3, hfz22_4, hfz22_5, hfz22_6⟩ := cz7_ (w := w21) BK325.out))
    refine bodyPost_ret (results_ct rfl _ _ gb325 25 #[.int .u64 0, .int .u64 0, .int .u64 0, .int .u64 0, .int .u64 0, .slice none 0 0, .bool false] (0, 0) _ rfl (by (with_reducible repeat (first | refine blk_drewN ?_ _ | refine blk_drew ?_ | refine blk_alloc ?_ _)); apply bp7_; (with_reducible repeat (first | refine blk_drewN ?_ _ | refine blk_drew ?_ | refine blk_alloc ?_ _)); exact BK325.out) Try.underlying25 rfl (by kernel_rfl)) rfl ?_
    exact ⟨_, by (rfl), by (exact Kd.R_nil _ _ _ _ _), by repeat (((with_reducible first | exact HB.out | refine below_set ?_ GE325.out)))⟩

end Go.Proofs.Ytcfbcoinbecdfaa.P
