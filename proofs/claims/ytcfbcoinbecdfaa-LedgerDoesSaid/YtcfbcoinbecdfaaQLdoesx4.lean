-- written by a program of this session (wip/print)
import Derived.Test.YtcfbcoinbecdfaaQLdoesx0
import Derived.Test.YtcfbcoinbecdfaaQLdoesx2
import Derived.Test.YtcfbcoinbecdfaaQLdoesx3
namespace Go.Proofs.Ytcfbcoinbecdfaa.P
open Go.RowKit Go.Proofs.YtcfbcoinbecdfaaW.PrintWords Go.Proofs.YtcfbcoinbecdfaaW.PrintLast Go.Proofs.YtcfbcoinbecdfaaW.PrintMore
attribute [local go_sem] max2_int min2_int max_two min_two max_three min_three max_four min_four run_sub64_   -- for this text's walks alone
set_option linter.unusedVariables false
set_option linter.unusedSimpArgs false

/-! ### channel_Check: function 33 -/
def channel_Check.f (k : Nat) (a0_0 : Int) (a0_1 : Int) (a0_2 : Int) (a0_3 : Int) (a0_4 : Int) (l0_5 : List (S44)) (a0_6 : Bool) : Option (Int) := (channel_sums.f k a0_0 a0_1 a0_2 a0_3 a0_4 l0_5 a0_6).bind fun bt130 => (some bt130.2.2)
theorem channel_Check.mono : ∀ a0 a1 a2 a3 a4 a5 a6 k, LeO (channel_Check.f k a0 a1 a2 a3 a4 a5 a6) (channel_Check.f (k + 1) a0 a1 a2 a3 a4 a5 a6) := by
  intro a0 a1 a2 a3 a4 a5 a6 k
  unfold channel_Check.f
  repeat' first
      | (with_reducible exact channel_sums.mono _ _ _ _ _ _ _ _)
      | (with_reducible exact LeO.refl _)
      | (with_reducible refine LeO.bind ?_ (fun _ => ?_))
      | exact channel_sums.mono _ _ _ _ _ _ _ _
      | exact LeO.none _
      | refine LeO.ite ?_ ?_
      | refine LeO.bind ?_ (fun _ => ?_)
set_option maxHeartbeats 8000000 in
set_option maxRecDepth 100000 in
theorem channel_Check.calls (k : Nat) (a0_0 : Int) (a0_1 : Int) (a0_2 : Int) (a0_3 : Int) (a0_4 : Int) (A0_5 : Option Addr) (c0_5 : Nat) (l0_5 : List (S44)) (a0_6 : Bool) (r : Int) (w : World) (hr0_5 : Kd.C k44 w A0_5 l0_5.length l0_5) (hc0_5 : l0_5.length ≤ c0_5) (h : channel_Check.f k a0_0 a0_1 a0_2 a0_3 a0_4 l0_5 a0_6 = some r) :
    Calls Try.prog 33 #[.agg #[.int .u64 a0_0, .int .u64 a0_1, .int .u64 a0_2, .int .u64 a0_3, .int .u64 a0_4, .slice A0_5 l0_5.length c0_5, .bool a0_6]] w fun e w' => e = .returned (.int .i64 r) ∧ Below w.heap.size w w' := by
  have hu25 := Try.underlying25
  have HR0_5 := aM_ hr0_5
  have HC0_5 := aM_ hc0_5
  clear hr0_5 hc0_5
  have HB := aM_ (Below.refl w.heap.size w)
  have H : ((channel_sums.f k a0_0 a0_1 a0_2 a0_3 a0_4 l0_5 a0_6).bind fun bt130 => (some bt130.2.2)) = some r := h
  clear h
  replace H := oB_ H
  obtain ⟨⟨t130, t131, t132⟩, A20, H⟩ := H
  replace H : (some t132) = some r := H
  have A2 := aM_ A20
  clear A20
  obtain rfl := Option.some.inj H
  go_enter Try.func33, Try.ntmps33
  go_wp2_with (first | ((with_reducible refine gate_dst (N := 1) rfl ?_); refine box_event ?hg (N := 1) ?hd (cs := #[.int .u64 a0_0, .int .u64 a0_1, .int .u64 a0_2, .int .u64 a0_3, .int .u64 a0_4, .slice A0_5 l0_5.length c0_5, .bool a0_6]) (t := 25) ?hr ?_; (case hd => rfl); (case hg => rfl); (case hr => ((go_simp; done))); intro gb129 hg w3 hbox hb; have BK129 := aM_ (hbox); have GW129 := aM_ (geN HB hg); have GE129 := aM_ (geN HB hg); replace HB := bsA_ HB hb; clear hb hbox hg; obtain ⟨hcz4_0, hcz4_1, hcz4_2, hcz4_3, hcz4_4, hcz4_5, hcz4_6, hfz4_0, hfz4_1, hfz4_2, hfz4_3, hfz4_4, hfz4_5, hfz4_6⟩ := cz7_ (w := w3) BK129.out) | ((with_reducible refine gate_callee (f := 83) rfl ?_); refine gL_ 8 Try.func83 #[.agg #[.int .u64 a0_0, .int .u64 a0_1, .int .u64 a0_2, .int .u64 a0_3, .int .u64 a0_4, .slice A0_5 l0_5.length c0_5, .bool a0_6]] ?_; (with_reducible refine (channel_sums.calls k a0_0 a0_1 a0_2 a0_3 a0_4 _ _ l0_5 a0_6 t130 t131 t132 _ ?side1 ?side2 A2.out).mono ?_); (case side1 => repeat ((exact (Kd.C_below HR0_5.out HB.out)))); (case side2 => exact HC0_5.out); rintro e w5 ⟨rfl, hb⟩; refine ⟨_, rfl, ?_⟩; replace BK129 := bbA_ BK129 hb; replace HB := bsA_ HB hb; (try clear hb)))
  go_ret
  exact ⟨by (rfl), by repeat (((with_reducible (exact HB.out))))⟩

/-! ### channel_All: function 30 -/
def channel_All.f (k : Nat) (a0_0 : Int) (a0_1 : Int) (a0_2 : Int) (a0_3 : Int) (a0_4 : Int) (l0_5 : List (S44)) (a0_6 : Bool) : Option (Int × Int) := (channel_sums.f k a0_0 a0_1 a0_2 a0_3 a0_4 l0_5 a0_6).bind fun bt134 => (some (bt134.2.1, bt134.2.2))
theorem channel_All.mono : ∀ a0 a1 a2 a3 a4 a5 a6 k, LeO (channel_All.f k a0 a1 a2 a3 a4 a5 a6) (channel_All.f (k + 1) a0 a1 a2 a3 a4 a5 a6) := by
  intro a0 a1 a2 a3 a4 a5 a6 k
  unfold channel_All.f
  repeat' first
      | (with_reducible exact channel_sums.mono _ _ _ _ _ _ _ _)
      | (with_reducible exact LeO.refl _)
      | (with_reducible refine LeO.bind ?_ (fun _ => ?_))
      | exact channel_sums.mono _ _ _ _ _ _ _ _
      | exact LeO.none _
      | refine LeO.ite ?_ ?_
      | refine LeO.bind ?_ (fun _ => ?_)
set_option maxHeartbeats 8000000 in
set_option maxRecDepth 100000 in
theorem channel_All.calls (k : Nat) (a0_0 : Int) (a0_1 : Int) (a0_2 : Int) (a0_3 : Int) (a0_4 : Int) (A0_5 : Option Addr) (c0_5 : Nat) (l0_5 : List (S44)) (a0_6 : Bool) (r1 : Int) (r2 : Int) (w : World) (hr0_5 : Kd.C k44 w A0_5 l0_5.length l0_5) (hc0_5 : l0_5.length ≤ c0_5) (h : channel_All.f k a0_0 a0_1 a0_2 a0_3 a0_4 l0_5 a0_6 = some (r1, r2)) :
    Calls Try.prog 30 #[.agg #[.int .u64 a0_0, .int .u64 a0_1, .int .u64 a0_2, .int .u64 a0_3, .int .u64 a0_4, .slice A0_5 l0_5.length c0_5, .bool a0_6]] w fun e w' => e = .returned (.tuple #[.int .u64 r1, .int .i64 r2]) ∧ Below w.heap.size w w' := by
  have hu25 := Try.underlying25
  have HR0_5 := aM_ hr0_5
  have HC0_5 := aM_ hc0_5
  clear hr0_5 hc0_5
  have HB := aM_ (Below.refl w.heap.size w)
  have H : ((channel_sums.f k a0_0 a0_1 a0_2 a0_3 a0_4 l0_5 a0_6).bind fun bt134 => (some (bt134.2.1, bt134.2.2))) = some (r1, r2) := h
  clear h
  replace H := oB_ H
  obtain ⟨⟨t134, t135, t136⟩, A20, H⟩ := H
  replace H : (some (t135, t136)) = some (r1, r2) := H
  have A2 := aM_ A20
  clear A20
  simp only [Option.some.injEq, Prod.mk.injEq] at H
  obtain ⟨rfl, rfl⟩ := H
  go_enter Try.func30, Try.ntmps30
  go_wp2_with (first | ((with_reducible refine gate_dst (N := 1) rfl ?_); refine box_event ?hg (N := 1) ?hd (cs := #[.int .u64 a0_0, .int .u64 a0_1, .int .u64 a0_2, .int .u64 a0_3, .int .u64 a0_4, .slice A0_5 l0_5.length c0_5, .bool a0_6]) (t := 25) ?hr ?_; (case hd => rfl); (case hg => rfl); (case hr => ((go_simp; done))); intro gb133 hg w3 hbox hb; have BK133 := aM_ (hbox); have GW133 := aM_ (geN HB hg); have GE133 := aM_ (geN HB hg); replace HB := bsA_ HB hb; clear hb hbox hg; obtain ⟨hcz4_0, hcz4_1, hcz4_2, hcz4_3, hcz4_4, hcz4_5, hcz4_6, hfz4_0, hfz4_1, hfz4_2, hfz4_3, hfz4_4, hfz4_5, hfz4_6⟩ := cz7_ (w := w3) BK133.out) | ((with_reducible refine gate_callee (f := 83) rfl ?_); refine gL_ 9 Try.func83 #[.agg #[.int .u64 a0_0, .int .u64 a0_1, .int .u64 a0_2, .int .u64 a0_3, .int .u64 a0_4, .slice A0_5 l0_5.length c0_5, .bool a0_6]] ?_; (with_reducible refine (channel_sums.calls k a0_0 a0_1 a0_2 a0_3 a0_4 _ _ l0_5 a0_6 t134 t135 t136 _ ?side1 ?side2 A2.out).mono ?_); (case side1 => repeat ((exact (Kd.C_below HR0_5.out HB.out)))); (case side2 => exact HC0_5.out); rintro e w5 ⟨rfl, hb⟩; refine ⟨_, rfl, ?_⟩; replace BK133 := bbA_ BK133 hb; replace HB := bsA_ HB hb; (try clear hb)))
  go_ret2
  exact ⟨by (rfl), by repeat (((with_reducible (exact HB.out))))⟩

/-! ### ledger_order: function 100 -/
def ledger_order.f (a0_0 : Int) (a0_1 : Int) (a0_2 : Int) (a0_3 : Int) (a0_4 : Int) (l0_5 : List (S44)) (a0_6 : Bool) (a1 : Int) : Option (Int) := (cmp_Compare_uint64.f a0_0 a1).bind fun t138 => (some t138)
set_option maxHeartbeats 8000000 in
set_option maxRecDepth 100000 in
theorem ledger_order.calls (a0_0 : Int) (a0_1 : Int) (a0_2 : Int) (a0_3 : Int) (a0_4 : Int) (A0_5 : Option Addr) (c0_5 : Nat) (l0_5 : List (S44)) (a0_6 : Bool) (a1 : Int) (r : Int) (w : World) (hr0_5 : Kd.C k44 w A0_5 l0_5.length l0_5) (hc0_5 : l0_5.length ≤ c0_5) (h : ledger_order.f a0_0 a0_1 a0_2 a0_3 a0_4 l0_5 a0_6 a1 = some r) :
    Calls Try.prog 100 #[.agg #[.int .u64 a0_0, .int .u64 a0_1, .int .u64 a0_2, .int .u64 a0_3, .int .u64 a0_4, .slice A0_5 l0_5.length c0_5, .bool a0_6], .int .u64 a1] w fun e w' => e = .returned (.int .i64 r) ∧ Below w.heap.size w w' := by
  have hu25 := Try.underlying25
  have HR0_5 := aM_ hr0_5
  have HC0_5 := aM_ hc0_5
  clear hr0_5 hc0_5
  have HB := aM_ (Below.refl w.heap.size w)
  have H : ((cmp_Compare_uint64.f a0_0 a1).bind fun t138 => (some t138)) = some r := h
  clear h
  replace H := oB_ H
  obtain ⟨t138, A30, H⟩ := H
  replace H : (some t138) = some r := H
  have A3 := aM_ A30
  clear A30
  obtain rfl := Option.some.inj H
  go_enter Try.func100, Try.ntmps100
  go_wp2_with (first | ((with_reducible refine gate_dst (N := 2) rfl ?_); refine box_event ?hg (N := 2) ?hd (cs := #[.int .u64 a0_0, .int .u64 a0_1, .int .u64 a0_2, .int .u64 a0_3, .int .u64 a0_4, .slice A0_5 l0_5.length c0_5, .bool a0_6]) (t := 25) ?hr ?_; (case hd => rfl); (case hg => rfl); (case hr => ((go_simp; done))); intro gb137 hg w4 hbox hb; have BK137 := aM_ (hbox); have GW137 := aM_ (geN HB hg); have GE137 := aM_ (geN HB hg); replace HB := bsA_ HB hb; clear hb hbox hg; obtain ⟨hcz5_0, hcz5_1, hcz5_2, hcz5_3, hcz5_4, hcz5_5, hcz5_6, hfz5_0, hfz5_1, hfz5_2, hfz5_3, hfz5_4, hfz5_5, hfz5_6⟩ := cz7_ (w := w4) BK137.out) | ((with_reducible refine gate_callee (f := 129) rfl ?_); refine gL_ 8 Try.func129 #[.int .u64 a0_0, .int .u64 a1] ?_; (with_reducible refine (cmp_Compare_uint64.calls a0_0 a1 t138 _ A3.out).mono ?_); rintro e w' ⟨rfl, ⟨nd, rfl⟩⟩; refine ⟨_, rfl, ?_⟩))
  go_ret
  exact ⟨by (rfl), by repeat (((with_reducible first | exact HB.out | apply pw_below_drewN)))⟩

/-! ### ledger_read: function 107 (by hand) -/
/-- What a map of holds reads as. -/
def ledger_read.mp (ps : List (Int × Int)) : DataW Unit := ps.foldl (fun D p => D.put (.int .u64 p.1) (.lit (.int .i64 p.2))) (.map [])
theorem ledger_read.mp_snoc (ps : List (Int × Int)) (p : Int × Int) : ledger_read.mp (ps ++ [p]) = (ledger_read.mp ps).put (.int .u64 p.1) (.lit (.int .i64 p.2)) := by
  unfold ledger_read.mp
  rw [List.foldl_append]; rfl
theorem ledger_read.mp_isMap (ps : List (Int × Int)) : Go.Maps.IsMap (ledger_read.mp ps) := by
  have : ∀ (ps : List (Int × Int)) (D : DataW Unit), Go.Maps.IsMap D → Go.Maps.IsMap (ps.foldl (fun D p => D.put (.int .u64 p.1) (.lit (.int .i64 p.2))) D) := by
    intro ps
    induction ps with
    | nil => intro D h; exact h
    | cons p ps ih => intro D h; exact ih _ (h.put _ _)
  exact this ps _ Go.Maps.isMap_empty
theorem ledger_read.mp_has (k : Int) (ps : List (Int × Int)) : Go.Maps.has (ledger_read.mp ps) (.int .u64 k) = ps.any (fun p => p.1 == k) := by
  have : ∀ (ps : List (Int × Int)) (D : DataW Unit), Go.Maps.IsMap D → Go.Maps.has (ps.foldl (fun D p => D.put (.int .u64 p.1) (.lit (.int .i64 p.2))) D) (.int .u64 k) = (Go.Maps.has D (.int .u64 k) || ps.any (fun p => p.1 == k)) := by
    intro ps
    induction ps with
    | nil => intro D h; simp
    | cons p ps ih =>
      intro D h
      rw [List.foldl_cons, ih _ (h.put _ _), List.any_cons]
      by_cases e : p.1 = k
      · subst e
        rw [Go.Maps.has_put_same h (k := .int .u64 p.1) trivial]
        simp
      · rw [Go.Maps.has_put_other (by intro h; injection h with h1 h2; exact e h2.symm)]
        have : (p.1 == k) = false := beq_eq_false_iff_ne.mpr e
        rw [this, Bool.false_or]
  unfold ledger_read.mp
  rw [this ps _ Go.Maps.isMap_empty]
  rfl
/-- The index that is kept at a key. -/
def ledger_read.at_ (k : Int) (ps : List (Int × Int)) : Option Int := (ps.find? (fun p => p.1 == k)).map (·.2)
theorem own_below {w w' : World} {B n : Nat} {D : DataW Unit} (h : Go.World.ownsMap (H := Unit) w Try.prog 22 (Go.plainElem Try.prog 3) B n D) (hb : Below w.heap.size w w') : Go.World.ownsMap (H := Unit) w' Try.prog 22 (Go.plainElem Try.prog 3) B n D :=
  h.kept (row := none) ⟨hb.os, hb.tape, hb.output, hb.size, fun k hk _ => hb.block k hk⟩ (by simp)
def ledger_read.holds (i : Int) : List (Int × Int) → List S44 → Option (Option (List (Int × Int)))
  | ps, [] => some (some ps)
  | ps, h :: hs => if 0 ≤ h.f0 ∧ h.f0 < 18446744073709551616 ∧ ps.length < 1000000 then (if ps.any (fun p => p.1 == h.f0) = true then some none else ledger_read.holds i (ps ++ [(h.f0, i)]) hs) else none
def ledger_read.ord (pv : Option S25) (c : S25) : Option Bool := pv.elim (some false) (fun p => (ledger_order.f p.f0 p.f1 p.f2 p.f3 p.f4 p.f5 p.f6 c.f0).bind fun o => some (decide (0 ≤ o)))
def ledger_read.loop (k : Nat) : Nat → Option S25 → Int → List (Int × Int) → List S25 → Option (List (Int × Int) × Int)
  | _, _, _, ps, [] => some (ps, 0)
  | i, pv, sum, ps, c :: cs => (channel_All.f k c.f0 c.f1 c.f2 c.f3 c.f4 c.f5 c.f6).bind fun x => if x.2 = 0 then
      (ledger_read.ord pv c).bind fun b => if b = true then some ([], 1) else
      (money_Add.f k [sum, x.1]).bind fun y => if y.2 = 0 then (ledger_read.holds (i : Int) ps c.f5).bind fun r => r.elim (some ([], 1)) (fun ps' => ledger_read.loop k (i + 1) (some c) y.1 ps' cs)
      else some ([], 1)
    else some ([], 1)
def ledger_read.f (k : Nat) (l0 : List S25) : Option (List (Int × Int) × Int) := if 32 < l0.length then some ([], 1) else ledger_read.loop k 0 none 0 [] l0
theorem ledger_read.mono_l (k : Nat) : ∀ l i pv sum ps, LeO (ledger_read.loop k i pv sum ps l) (ledger_read.loop (k + 1) i pv sum ps l)
  | [], _, _, _, _ => LeO.refl _
  | c :: cs, i, pv, sum, ps => by
    have ih := ledger_read.mono_l k cs
    unfold ledger_read.loop
    refine LeO.bind (channel_All.mono _ _ _ _ _ _ _ _) (fun x => LeO.ite (LeO.bind (LeO.refl _) (fun b => LeO.ite (LeO.refl _) (LeO.bind (money_Add.mono _ _) (fun y => LeO.ite (LeO.bind (LeO.refl _) (fun r => ?_)) (LeO.refl _))))) (LeO.refl _))
    cases r with
    | none => exact LeO.refl _
    | some ps' => exact ih _ _ _ _
theorem ledger_read.mono : ∀ a0 k, LeO (ledger_read.f k a0) (ledger_read.f (k + 1) a0) := by
  intro a0 k
  unfold ledger_read.f
  exact LeO.ite (LeO.refl _) (ledger_read.mono_l _ _ _ _ _ _)
theorem two_C (w : World) (a b : Int) : Kd.C (Kd.int .u64) (w.alloc (.cells #[.int .u64 a, .int .u64 b] 22)) (some ⟨w.heap.size, 0, none⟩) ([a, b] : List Int).length [a, b] := by
  refine ⟨rfl, (show (2 : Nat) ≤ 9223372036854775807 by decide), fun _ => ⟨_, rfl, fun j p hj => ?_⟩⟩
  have key : ∀ (j : Nat) (p : Int), (#[.int .u64 a, .int .u64 b] : Array Value)[j]? = some (.int .u64 p) → ∃ c : List Value, c.length = (Kd.int .u64).sz ∧ (Kd.int .u64).K (w.alloc (.cells #[.int .u64 a, .int .u64 b] 22)) p c ∧ ∀ i u, c[i]? = some u → (w.alloc (.cells #[.int .u64 a, .int .u64 b] 22)).cell? ((⟨w.heap.size, 0, none⟩ : Addr).add (j * (Kd.int .u64).sz + i)) = some u := by
    intro j p hs
    refine ⟨[.int .u64 p], rfl, rfl, fun i u hi => ?_⟩
    cases i with
    | zero =>
      obtain rfl : Value.int .u64 p = u := by simpa using hi
      rw [add_plain, blk_cell (blk_new w _)]
      have : j * (Kd.int .u64).sz + 0 = j := by show j * 1 + 0 = j; omega
      rw [this]; exact hs
    | succ i => simp at hi
  match j with
  | 0 => obtain rfl : a = p := by simpa using hj
         exact key 0 a rfl
  | 1 => obtain rfl : b = p := by simpa using hj
         exact key 1 b rfl
  | j + 2 => simp at hj
theorem ledger_read.loop_nil (k i : Nat) (pv : Option S25) (sum : Int) (ps : List (Int × Int)) : ledger_read.loop k i pv sum ps [] = some (ps, 0) := rfl
theorem ledger_read.loop_cons (k i : Nat) (pv : Option S25) (sum : Int) (ps : List (Int × Int)) (c : S25) (cs : List S25) : ledger_read.loop k i pv sum ps (c :: cs) = (channel_All.f k c.f0 c.f1 c.f2 c.f3 c.f4 c.f5 c.f6).bind fun x => if x.2 = 0 then (ledger_read.ord pv c).bind fun b => if b = true then some ([], 1) else (money_Add.f k [sum, x.1]).bind fun y => if y.2 = 0 then (ledger_read.holds (i : Int) ps c.f5).bind fun r => r.elim (some ([], 1)) (fun ps' => ledger_read.loop k (i + 1) (some c) y.1 ps' cs) else some ([], 1) else some ([], 1) := rfl
theorem drop25 {l : List S25} {i : Nat} (h : i < l.length) : l.drop i = rd_T25 l (i : Int) :: l.drop (i + 1) := by
  rw [List.drop_eq_getElem_cons h]
  simp only [rd_T25, Int.toNat_natCast, List.getD_eq_getElem?_getD, List.getElem?_eq_getElem h, Option.getD_some]
/-- What read gives back. -/
def ReadPost (W : World) (r : List (Int × Int) × Int) (e : Ending) (w' : World) : Prop := (r.2 = 0 → ∃ B, W.heap.size ≤ B ∧ e = .returned (.tuple #[.map (some B), .int .i64 0]) ∧ Go.World.ownsMap (H := Unit) w' Try.prog 22 (Go.plainElem Try.prog 3) B r.1.length (ledger_read.mp r.1)) ∧ (r.2 ≠ 0 → e = .returned (.tuple #[.map none, .int .i64 r.2])) ∧ Below W.heap.size W w'
theorem read_err {W w' : World} (hb : Below W.heap.size W w') : ReadPost W ([], 1) (.returned (.tuple #[.map none, .int .i64 1])) w' := ⟨fun h => absurd h (by decide), fun _ => rfl, hb⟩
set_option maxHeartbeats 16000000 in
set_option maxRecDepth 100000 in
theorem ledger_read.calls (k : Nat) (A0 : Option Addr) (c0 : Nat) (l : List S25) (r : List (Int × Int) × Int) (w : World) (hr0 : Kd.C k25 w A0 l.length l) (hc0 : l.length ≤ c0) (h : ledger_read.f k l = some r) :
    Calls Try.prog 107 #[.slice A0 l.length c0] w (ReadPost w r) := by
  have HR0 := aM_ hr0
  have HC0 := aM_ hc0
  clear hr0 hc0
  unfold ledger_read.f at h
  by_cases h32 : 32 < l.length
  · rw [if_pos h32] at h
    have h32b : decide ((32 : Int) < (l.length : Int)) = true := decide_eq_true (by omega)
    injection h with h
    subst h
    clear h32
    go_enter Try.func107, Try.ntmps107
    go_wp2
    go_ret2
    exact read_err (Below.refl _ _)
  rw [if_neg h32] at h
  have h32b : decide ((32 : Int) < (l.length : Int)) = false := decide_eq_false (by omega)
  have hlen : l.length ≤ 32 := by omega
  have hB := aM_ h
  clear h32 h
  have hmm := @run_makeMap Try.prog
  go_enter Try.func107, Try.ntmps107
  go_wp2
  have zeroE : ∀ w, (zeroValue 3).run Try.prog w = .ok (.int .i64 0) w := fun _ => by kernel_rfl
  have HZE := aM_ zeroE
  clear zeroE hmm h32b
  go_loopw [5, 20] (fun vs vi wr => ∃ (i : Nat) (sum : Int) (ps : List (Int × Int)) (pv : Option S25), i ≤ l.length ∧ vi = .int .i64 i ∧ vs = .int .u64 sum ∧ Aside0 (pv = if i = 0 then none else some (rd_T25 l ((i - 1 : Nat) : Int))) ∧ Aside0 (Go.World.ownsMap (H := Unit) wr Try.prog 22 (Go.plainElem Try.prog 3) w.heap.size ps.length (ledger_read.mp ps)) ∧ Aside0 (Below w.heap.size w wr) ∧ Aside0 (ledger_read.loop k i pv sum ps (l.drop i) = some r)) (fun _ vi _ => l.length - (intOf vi).toNat)
  case atStart => exact ⟨0, 0, [], none, Nat.zero_le _, rfl, rfl, ⟨rfl⟩, ⟨World.ownsMap_made _ _ _ _⟩, ⟨(Below.refl _ _).alloc (Nat.le_refl _) _⟩, ⟨by rw [List.drop_zero]; exact hB.out⟩⟩
  case round =>
   clear hB
   obtain ⟨i, sum, ps, pv, hi, rfl, rfl, HPV, HO, HB, HR⟩ := hrel
   by_cases hil : i < l.length
   case neg =>
    obtain rfl : i = l.length := by omega
    have h := HR.out
    rw [List.drop_of_length_le (Nat.le_refl _), ledger_read.loop_nil] at h
    injection h with h
    subst h
    clear HR
    go_wp2
    go_ret2
    exact ⟨fun _ => ⟨w.heap.size, Nat.le_refl _, rfl, HO.out⟩, fun h => absurd rfl h, HB.out⟩
   have HBR := HB
   obtain ⟨ad, A5, c5, ea, hx0, hx1, hx2, hx3, hx4, hx5, hx6, hl5, hi5⟩ := at_T25 HR0.out (i : Int) (by omega) (by omega)
   subst ea
   have hdr := drop25 hil
   obtain ⟨c, hc⟩ : ∃ c, c = rd_T25 l (i : Int) := ⟨_, rfl⟩
   simp only [← hc, Int.toNat_natCast] at hx0 hx1 hx2 hx3 hx4 hx5 hx6 hl5 hi5 hdr
   have HCI := aM_ hc
   clear hc
   replace hx0 := cN_ HB hx0
   replace hx1 := cN_ HB hx1
   replace hx2 := cN_ HB hx2
   replace hx3 := cN_ HB hx3
   replace hx4 := cN_ HB hx4
   replace hx5 := cN_ HB hx5
   replace hx6 := cN_ HB hx6
   have HL5 := aM_ hl5
   have HI5 := aM_ hi5
   clear hl5 hi5
   have h := HR.out
   rw [hdr, ledger_read.loop_cons] at h
   clear hdr HR
   obtain ⟨⟨xa, xe⟩, h1, h_⟩ := oB_ h
   replace h := h_
   clear h_
   have HF1 := aM_ h1
   clear h1
   dsimp only at h
   by_cases hxe : xe = 0
   case neg =>
    rw [if_neg hxe] at h
    injection h with h
    subst h
    have hxb : (xe != 0) = true := bne_iff_ne.mpr hxe
    clear hxe
    go_wp2_with (go_at_call 30; have hal := (Below.refl wr.heap.size wr).alloc (Nat.le_refl _) (.cells #[.int .u64 c.f0, .int .u64 c.f1, .int .u64 c.f2, .int .u64 c.f3, .int .u64 c.f4, .slice A5 c.f5.length c5, .bool c.f6] 25); have HT := aM_ (blk_new wr (.cells #[.int .u64 c.f0, .int .u64 c.f1, .int .u64 c.f2, .int .u64 c.f3, .int .u64 c.f4, .slice A5 c.f5.length c5, .bool c.f6] 25)); replace HB := aM_ (below_then HB.out HB.out.size hal); replace HO := aM_ (own_below HO.out hal); clear hal; refine (channel_All.calls k c.f0 c.f1 c.f2 c.f3 c.f4 A5 c5 c.f5 c.f6 xa xe _ (Kd.C_below HI5.out HB.out) HL5.out HF1.out).mono ?_; rintro e w2 ⟨rfl, hb⟩; clear HF1; replace HB := aM_ (below_then HB.out HB.out.size hb); replace HO := aM_ (own_below HO.out hb); replace HT := aM_ (blk_below HT.out hb); clear hb hx0 hx1 hx2 hx3 hx4 hx5 hx6)
    replace HB := aM_ (below_drew1 HB.out)
    refine start_ (n := 17) (S := fun w' => True) (ds := []) #[false, false, false, false, false, false, false, false, false, false, false, false, false, false, false, false, false] (by kernel_rfl) rfl rfl trivial (fun hHeld => ?_)
    generalize w2.drew = wd at HB hHeld ⊢
    refine pure_ (i := 0) (N := some 30) (v := ?_) (a' := ?_) #[true, false, false, false, false, false, false, false, false, false, false, false, false, false, false, false, false] rfl rfl (by kernel_rfl) (fun _ _ _ h => h) (Or.inl ⟨by rfl, ?_⟩) ?_ ?_
    rotate_left
    · intro w'
      go_simp
      with_reducible rfl
    rotate_left
    · simp only [Act.put, List.setIfInBounds_toArray, List.set_cons_zero, List.set_cons_succ, i64_w, i32_w]
      rfl
    refine pure_ (i := 1) (N := some 31) (v := ?_) (a' := ?_) #[true, true, false, false, false, false, false, false, false, false, false, false, false, false, false, false, false] rfl rfl (by kernel_rfl) (fun _ _ _ h => h) (Or.inl ⟨by rfl, ?_⟩) ?_ ?_
    rotate_left
    · intro w'
      go_simp
      with_reducible rfl
    rotate_left
    · simp only [Act.put, List.setIfInBounds_toArray, List.set_cons_zero, List.set_cons_succ, i64_w, i32_w]
      rfl
    refine pure_ (i := 2) (N := some 32) (v := ?_) (a' := ?_) #[true, true, true, false, false, false, false, false, false, false, false, false, false, false, false, false, false] rfl rfl (by kernel_rfl) (fun _ _ _ h => h) (Or.inl ⟨by rfl, ?_⟩) ?_ ?_
    rotate_left
    · intro w'
      go_simp
      with_reducible rfl
    rotate_left
    · simp only [Act.put, List.setIfInBounds_toArray, List.set_cons_zero, List.set_cons_succ, i64_w, i32_w]
      rfl
    refine pure_ (i := 3) (N := some 33) (v := undef) (a' := ?_) #[true, true, true, true, false, false, false, false, false, false, false, false, false, false, false, false, false] rfl rfl (by kernel_rfl) (fun _ _ _ h => h) (Or.inr ⟨by rfl, rfl⟩) ?_ ?_
    rotate_left
    · simp only [Act.put, List.setIfInBounds_toArray, List.set_cons_zero, List.set_cons_succ, i64_w, i32_w]
      rfl
    refine pure_ (i := 4) (N := some 34) (v := undef) (a' := ?_) #[true, true, true, true, true, false, false, false, false, false, false, false, false, false, false, false, false] rfl rfl (by kernel_rfl) (fun _ _ _ h => h) (Or.inr ⟨by rfl, rfl⟩) ?_ ?_
    rotate_left
    · simp only [Act.put, List.setIfInBounds_toArray, List.set_cons_zero, List.set_cons_succ, i64_w, i32_w]
      rfl
    refine pure_ (i := 5) (N := some 35) (v := undef) (a' := ?_) #[true, true, true, true, true, true, false, false, false, false, false, false, false, false, false, false, false] rfl rfl (by kernel_rfl) (fun _ _ _ h => h) (Or.inr ⟨by rfl, rfl⟩) ?_ ?_
    rotate_left
    · simp only [Act.put, List.setIfInBounds_toArray, List.set_cons_zero, List.set_cons_succ, i64_w, i32_w]
      rfl
    refine pure_ (i := 6) (N := some 36) (v := undef) (a' := ?_) #[true, true, true, true, true, true, true, false, false, false, false, false, false, false, false, false, false] rfl rfl (by kernel_rfl) (fun _ _ _ h => h) (Or.inr ⟨by rfl, rfl⟩) ?_ ?_
    rotate_left
    · simp only [Act.put, List.setIfInBounds_toArray, List.set_cons_zero, List.set_cons_succ, i64_w, i32_w]
      rfl
    refine pure_ (i := 7) (N := some 37) (v := undef) (a' := ?_) #[true, true, true, true, true, true, true, true, false, false, false, false, false, false, false, false, false] rfl rfl (by kernel_rfl) (fun _ _ _ h => h) (Or.inr ⟨by rfl, rfl⟩) ?_ ?_
    rotate_left
    · simp only [Act.put, List.setIfInBounds_toArray, List.set_cons_zero, List.set_cons_succ, i64_w, i32_w]
      rfl
    refine pure_ (i := 8) (N := some 38) (v := undef) (a' := ?_) #[true, true, true, true, true, true, true, true, true, false, false, false, false, false, false, false, false] rfl rfl (by kernel_rfl) (fun _ _ _ h => h) (Or.inr ⟨by rfl, rfl⟩) ?_ ?_
    rotate_left
    · simp only [Act.put, List.setIfInBounds_toArray, List.set_cons_zero, List.set_cons_succ, i64_w, i32_w]
      rfl
    refine pure_ (i := 9) (N := some 39) (v := undef) (a' := ?_) #[true, true, true, true, true, true, true, true, true, true, false, false, false, false, false, false, false] rfl rfl (by kernel_rfl) (fun _ _ _ h => h) (Or.inr ⟨by rfl, rfl⟩) ?_ ?_
    rotate_left
    · simp only [Act.put, List.setIfInBounds_toArray, List.set_cons_zero, List.set_cons_succ, i64_w, i32_w]
      rfl
    refine pure_ (i := 10) (N := some 40) (v := undef) (a' := ?_) #[true, true, true, true, true, true, true, true, true, true, true, false, false, false, false, false, false] rfl rfl (by kernel_rfl) (fun _ _ _ h => h) (Or.inr ⟨by rfl, rfl⟩) ?_ ?_
    rotate_left
    · simp only [Act.put, List.setIfInBounds_toArray, List.set_cons_zero, List.set_cons_succ, i64_w, i32_w]
      rfl
    refine pure_ (i := 11) (N := some 41) (v := undef) (a' := ?_) #[true, true, true, true, true, true, true, true, true, true, true, true, false, false, false, false, false] rfl rfl (by kernel_rfl) (fun _ _ _ h => h) (Or.inr ⟨by rfl, rfl⟩) ?_ ?_
    rotate_left
    · simp only [Act.put, List.setIfInBounds_toArray, List.set_cons_zero, List.set_cons_succ, i64_w, i32_w]
      rfl
    refine pure_ (i := 12) (N := some 42) (v := undef) (a' := ?_) #[true, true, true, true, true, true, true, true, true, true, true, true, true, false, false, false, false] rfl rfl (by kernel_rfl) (fun _ _ _ h => h) (Or.inr ⟨by rfl, rfl⟩) ?_ ?_
    rotate_left
    · simp only [Act.put, List.setIfInBounds_toArray, List.set_cons_zero, List.set_cons_succ, i64_w, i32_w]
      rfl
    refine pure_ (i := 13) (N := some 43) (v := undef) (a' := ?_) #[true, true, true, true, true, true, true, true, true, true, true, true, true, true, false, false, false] rfl rfl (by kernel_rfl) (fun _ _ _ h => h) (Or.inr ⟨by rfl, rfl⟩) ?_ ?_
    rotate_left
    · simp only [Act.put, List.setIfInBounds_toArray, List.set_cons_zero, List.set_cons_succ, i64_w, i32_w]
      rfl
    refine pure_ (i := 14) (N := some 44) (v := undef) (a' := ?_) #[true, true, true, true, true, true, true, true, true, true, true, true, true, true, true, false, false] rfl rfl (by kernel_rfl) (fun _ _ _ h => h) (Or.inr ⟨by rfl, rfl⟩) ?_ ?_
    rotate_left
    · simp only [Act.put, List.setIfInBounds_toArray, List.set_cons_zero, List.set_cons_succ, i64_w, i32_w]
      rfl
    refine pure_ (i := 15) (N := some 45) (v := undef) (a' := ?_) #[true, true, true, true, true, true, true, true, true, true, true, true, true, true, true, true, false] rfl rfl (by kernel_rfl) (fun _ _ _ h => h) (Or.inr ⟨by rfl, rfl⟩) ?_ ?_
    rotate_left
    · simp only [Act.put, List.setIfInBounds_toArray, List.set_cons_zero, List.set_cons_succ, i64_w, i32_w]
      rfl
    refine pure_ (i := 16) (N := some 46) (v := ?_) (a' := ?_) #[true, true, true, true, true, true, true, true, true, true, true, true, true, true, true, true, true] rfl rfl (by kernel_rfl) (fun _ _ _ h => h) (Or.inl ⟨by rfl, ?_⟩) ?_ ?_
    rotate_left
    · intro w'
      go_simp
      with_reducible rfl
    rotate_left
    · simp only [Act.put, List.setIfInBounds_toArray, List.set_cons_zero, List.set_cons_succ, i64_w, i32_w]
      rfl
    refine done_ (by kernel_rfl) ?_
    go_wp2
    go_ret2
    exact read_err HB.out
   subst hxe
   rw [if_pos rfl] at h
   obtain ⟨bo, h1, h_⟩ := oB_ h
   replace h := h_
   clear h_
   have HBO := aM_ h1
   clear h1
   go_upto_region 8 with (go_at_call 30; have hal := (Below.refl wr.heap.size wr).alloc (Nat.le_refl _) (.cells #[.int .u64 c.f0, .int .u64 c.f1, .int .u64 c.f2, .int .u64 c.f3, .int .u64 c.f4, .slice A5 c.f5.length c5, .bool c.f6] 25); have HT := aM_ (blk_new wr (.cells #[.int .u64 c.f0, .int .u64 c.f1, .int .u64 c.f2, .int .u64 c.f3, .int .u64 c.f4, .slice A5 c.f5.length c5, .bool c.f6] 25)); replace HB := aM_ (below_then HB.out HB.out.size hal); replace HO := aM_ (own_below HO.out hal); clear hal; refine (channel_All.calls k c.f0 c.f1 c.f2 c.f3 c.f4 A5 c5 c.f5 c.f6 xa 0 _ (Kd.C_below HI5.out HB.out) HL5.out HF1.out).mono ?_; rintro e w2 ⟨rfl, hb⟩; clear HF1; replace HB := aM_ (below_then HB.out HB.out.size hb); replace HO := aM_ (own_below HO.out hb); replace HT := aM_ (blk_below HT.out hb); clear hb hx0 hx1 hx2 hx3 hx4 hx5 hx6)
   go_cut [46] (fun v wc => v = .bool bo ∧ Aside0 (Go.World.ownsMap (H := Unit) wc Try.prog 22 (Go.plainElem Try.prog 3) w.heap.size ps.length (ledger_read.mp ps)) ∧ Aside0 (Below w.heap.size w wc) ∧ Aside0 (wc.heap[wr.heap.size]? = some (.cells #[.int .u64 c.f0, .int .u64 c.f1, .int .u64 c.f2, .int .u64 c.f3, .int .u64 c.f4, .slice A5 c.f5.length c5, .bool c.f6] 25 (0, 0))))
   case first =>
    have hpv := HPV.out
    have hbo := HBO.out
    clear HPV HBO
    by_cases hi0 : i = 0
    · rw [if_pos hi0] at hpv
      subst hpv
      injection hbo with hbo
      subst hbo
      have hi0b : decide ((0 : Int) < (i : Int)) = false := decide_eq_false (by omega)
      have hi0n : decide (0 < i) = false := decide_eq_false (by omega)
      clear hi0
      replace HB := aM_ (below_drew1 HB.out)
      replace HO := aM_ (HO.out.drew)
      replace HT := aM_ (blk_drew HT.out)
      refine start_ (n := 17) (S := fun w' => True) (ds := []) #[false, false, false, false, false, false, false, false, false, false, false, false, false, false, false, false, false] (by kernel_rfl) rfl rfl trivial (fun hHeld => ?_)
      generalize w2.drew = wd at HB HO HT hHeld ⊢
      refine pure_ (i := 0) (N := some 30) (v := ?_) (a' := ?_) #[true, false, false, false, false, false, false, false, false, false, false, false, false, false, false, false, false] rfl rfl (by kernel_rfl) (fun _ _ _ h => h) (Or.inl ⟨by rfl, ?_⟩) ?_ ?_
      rotate_left
      · intro w'
        go_simp
        with_reducible rfl
      rotate_left
      · simp only [Act.put, List.setIfInBounds_toArray, List.set_cons_zero, List.set_cons_succ, i64_w, i32_w]
        rfl
      refine pure_ (i := 1) (N := some 31) (v := ?_) (a' := ?_) #[true, true, false, false, false, false, false, false, false, false, false, false, false, false, false, false, false] rfl rfl (by kernel_rfl) (fun _ _ _ h => h) (Or.inl ⟨by rfl, ?_⟩) ?_ ?_
      rotate_left
      · intro w'
        go_simp
        with_reducible rfl
      rotate_left
      · simp only [Act.put, List.setIfInBounds_toArray, List.set_cons_zero, List.set_cons_succ, i64_w, i32_w]
        rfl
      refine pure_ (i := 2) (N := some 32) (v := ?_) (a' := ?_) #[true, true, true, false, false, false, false, false, false, false, false, false, false, false, false, false, false] rfl rfl (by kernel_rfl) (fun _ _ _ h => h) (Or.inl ⟨by rfl, ?_⟩) ?_ ?_
      rotate_left
      · intro w'
        go_simp
        with_reducible rfl
      rotate_left
      · simp only [Act.put, List.setIfInBounds_toArray, List.set_cons_zero, List.set_cons_succ, i64_w, i32_w]
        rfl
      refine pure_ (i := 3) (N := some 33) (v := ?_) (a' := ?_) #[true, true, true, true, false, false, false, false, false, false, false, false, false, false, false, false, false] rfl rfl (by kernel_rfl) (fun _ _ _ h => h) (Or.inl ⟨by rfl, ?_⟩) ?_ ?_
      rotate_left
      · intro w'
        go_simp
        with_reducible rfl
      rotate_left
      · simp only [Act.put, List.setIfInBounds_toArray, List.set_cons_zero, List.set_cons_succ, i64_w, i32_w]
        rfl
      refine pure_ (i := 4) (N := some 34) (v := ?_) (a' := ?_) #[true, true, true, true, true, false, false, false, false, false, false, false, false, false, false, false, false] rfl rfl (by kernel_rfl) (fun _ _ _ h => h) (Or.inl ⟨by rfl, ?_⟩) ?_ ?_
      rotate_left
      · intro w'
        go_simp
        with_reducible rfl
      rotate_left
      · simp only [Act.put, List.setIfInBounds_toArray, List.set_cons_zero, List.set_cons_succ, i64_w, i32_w]
        rfl
      refine pure_ (i := 5) (N := some 35) (v := ?_) (a' := ?_) #[true, true, true, true, true, true, false, false, false, false, false, false, false, false, false, false, false] rfl rfl (by kernel_rfl) (fun _ _ _ h => h) (Or.inl ⟨by rfl, ?_⟩) ?_ ?_
      rotate_left
      · intro w'
        go_simp
        with_reducible rfl
      rotate_left
      · simp only [Act.put, List.setIfInBounds_toArray, List.set_cons_zero, List.set_cons_succ, i64_w, i32_w]
        rfl
      refine pure_ (i := 6) (N := some 36) (v := undef) (a' := ?_) #[true, true, true, true, true, true, true, false, false, false, false, false, false, false, false, false, false] rfl rfl (by kernel_rfl) (fun _ _ _ h => h) (Or.inr ⟨by rfl, rfl⟩) ?_ ?_
      rotate_left
      · simp only [Act.put, List.setIfInBounds_toArray, List.set_cons_zero, List.set_cons_succ, i64_w, i32_w]
        rfl
      refine pure_ (i := 7) (N := some 37) (v := undef) (a' := ?_) #[true, true, true, true, true, true, true, true, false, false, false, false, false, false, false, false, false] rfl rfl (by kernel_rfl) (fun _ _ _ h => h) (Or.inr ⟨by rfl, rfl⟩) ?_ ?_
      rotate_left
      · simp only [Act.put, List.setIfInBounds_toArray, List.set_cons_zero, List.set_cons_succ, i64_w, i32_w]
        rfl
      refine pure_ (i := 8) (N := some 38) (v := undef) (a' := ?_) #[true, true, true, true, true, true, true, true, true, false, false, false, false, false, false, false, false] rfl rfl (by kernel_rfl) (fun _ _ _ h => h) (Or.inr ⟨by rfl, rfl⟩) ?_ ?_
      rotate_left
      · simp only [Act.put, List.setIfInBounds_toArray, List.set_cons_zero, List.set_cons_succ, i64_w, i32_w]
        rfl
      refine pure_ (i := 9) (N := some 39) (v := undef) (a' := ?_) #[true, true, true, true, true, true, true, true, true, true, false, false, false, false, false, false, false] rfl rfl (by kernel_rfl) (fun _ _ _ h => h) (Or.inr ⟨by rfl, rfl⟩) ?_ ?_
      rotate_left
      · simp only [Act.put, List.setIfInBounds_toArray, List.set_cons_zero, List.set_cons_succ, i64_w, i32_w]
        rfl
      refine pure_ (i := 10) (N := some 40) (v := undef) (a' := ?_) #[true, true, true, true, true, true, true, true, true, true, true, false, false, false, false, false, false] rfl rfl (by kernel_rfl) (fun _ _ _ h => h) (Or.inr ⟨by rfl, rfl⟩) ?_ ?_
      rotate_left
      · simp only [Act.put, List.setIfInBounds_toArray, List.set_cons_zero, List.set_cons_succ, i64_w, i32_w]
        rfl
      refine pure_ (i := 11) (N := some 41) (v := undef) (a' := ?_) #[true, true, true, true, true, true, true, true, true, true, true, true, false, false, false, false, false] rfl rfl (by kernel_rfl) (fun _ _ _ h => h) (Or.inr ⟨by rfl, rfl⟩) ?_ ?_
      rotate_left
      · simp only [Act.put, List.setIfInBounds_toArray, List.set_cons_zero, List.set_cons_succ, i64_w, i32_w]
        rfl
      refine pure_ (i := 12) (N := some 42) (v := undef) (a' := ?_) #[true, true, true, true, true, true, true, true, true, true, true, true, true, false, false, false, false] rfl rfl (by kernel_rfl) (fun _ _ _ h => h) (Or.inr ⟨by rfl, rfl⟩) ?_ ?_
      rotate_left
      · simp only [Act.put, List.setIfInBounds_toArray, List.set_cons_zero, List.set_cons_succ, i64_w, i32_w]
        rfl
      refine pure_ (i := 13) (N := some 43) (v := undef) (a' := ?_) #[true, true, true, true, true, true, true, true, true, true, true, true, true, true, false, false, false] rfl rfl (by kernel_rfl) (fun _ _ _ h => h) (Or.inr ⟨by rfl, rfl⟩) ?_ ?_
      rotate_left
      · simp only [Act.put, List.setIfInBounds_toArray, List.set_cons_zero, List.set_cons_succ, i64_w, i32_w]
        rfl
      refine pure_ (i := 14) (N := some 44) (v := undef) (a' := ?_) #[true, true, true, true, true, true, true, true, true, true, true, true, true, true, true, false, false] rfl rfl (by kernel_rfl) (fun _ _ _ h => h) (Or.inr ⟨by rfl, rfl⟩) ?_ ?_
      rotate_left
      · simp only [Act.put, List.setIfInBounds_toArray, List.set_cons_zero, List.set_cons_succ, i64_w, i32_w]
        rfl
      refine pure_ (i := 15) (N := some 45) (v := ?_) (a' := ?_) #[true, true, true, true, true, true, true, true, true, true, true, true, true, true, true, true, false] rfl rfl (by kernel_rfl) (fun _ _ _ h => h) (Or.inl ⟨by rfl, ?_⟩) ?_ ?_
      rotate_left
      · intro w'
        go_simp
        with_reducible rfl
      rotate_left
      · simp only [Act.put, List.setIfInBounds_toArray, List.set_cons_zero, List.set_cons_succ, i64_w, i32_w]
        rfl
      refine pure_ (i := 16) (N := some 46) (v := ?_) (a' := ?_) #[true, true, true, true, true, true, true, true, true, true, true, true, true, true, true, true, true] rfl rfl (by kernel_rfl) (fun _ _ _ h => h) (Or.inl ⟨by rfl, ?_⟩) ?_ ?_
      rotate_left
      · intro w'
        go_simp
        with_reducible rfl
      rotate_left
      · simp only [Act.put, List.setIfInBounds_toArray, List.set_cons_zero, List.set_cons_succ, i64_w, i32_w]
        rfl
      refine done_ (by kernel_rfl) ?_
      go_wp2
      go_meet
      case rel => exact ⟨rfl, HO, HB, HT⟩
    · rw [if_neg hi0] at hpv
      subst hpv
      have hi0b : decide ((0 : Int) < (i : Int)) = true := decide_eq_true (by omega)
      have hi0n : decide (0 < i) = true := decide_eq_true (by omega)
      have hi0p : 0 < i := by omega
      have hsub : IntKind.i64.wrap ((i : Int) - 1) = ((i - 1 : Nat) : Int) := by rw [IntWalk.i64_in _ (by omega)]; omega
      have hpl : i - 1 < l.length := by omega
      clear hi0
      obtain ⟨ad2, P5, d5, ea, hy0, hy1, hy2, hy3, hy4, hy5, hy6, hm5, hj5⟩ := at_T25 HR0.out ((i - 1 : Nat) : Int) (by omega) (by omega)
      injection ea with ea
      subst ea
      obtain ⟨p, hp⟩ : ∃ p, p = rd_T25 l ((i - 1 : Nat) : Int) := ⟨_, rfl⟩
      simp only [← hp, Int.toNat_natCast] at hy0 hy1 hy2 hy3 hy4 hy5 hy6 hm5 hj5 hbo
      clear hp
      obtain ⟨oo, h1, h2⟩ := oB_ hbo
      have HFO := aM_ h1
      injection h2 with h2
      subst h2
      clear h1 hbo
      have HY0 := aM_ hy0
      have HY1 := aM_ hy1
      have HY2 := aM_ hy2
      have HY3 := aM_ hy3
      have HY4 := aM_ hy4
      have HY5 := aM_ hy5
      have HY6 := aM_ hy6
      have HM5 := aM_ hm5
      have HJ5 := aM_ hj5
      clear hm5 hj5 hy0 hy1 hy2 hy3 hy4 hy5 hy6
      replace HB := aM_ (below_drew1 HB.out)
      replace HO := aM_ (HO.out.drew)
      replace HT := aM_ (blk_drew HT.out)
      refine start_ (n := 17) (S := fun w' => w'.cell? (ad.add ((i - 1) * 7)) = some (.int .u64 p.f0) ∧ w'.cell? ⟨(ad.add ((i - 1) * 7)).block, (ad.add ((i - 1) * 7)).off + 1, none⟩ = some (.int .u64 p.f1) ∧ w'.cell? ⟨(ad.add ((i - 1) * 7)).block, (ad.add ((i - 1) * 7)).off + 2, none⟩ = some (.int .u64 p.f2) ∧ w'.cell? ⟨(ad.add ((i - 1) * 7)).block, (ad.add ((i - 1) * 7)).off + 3, none⟩ = some (.int .u64 p.f3) ∧ w'.cell? ⟨(ad.add ((i - 1) * 7)).block, (ad.add ((i - 1) * 7)).off + 4, none⟩ = some (.int .u64 p.f4) ∧ w'.cell? ⟨(ad.add ((i - 1) * 7)).block, (ad.add ((i - 1) * 7)).off + 5, none⟩ = some (.slice P5 p.f5.length d5) ∧ w'.cell? ⟨(ad.add ((i - 1) * 7)).block, (ad.add ((i - 1) * 7)).off + 6, none⟩ = some (.bool p.f6) ∧ w'.cell? ⟨wr.heap.size, 0, none⟩ = some (.int .u64 c.f0)) (ds := []) #[false, false, false, false, false, false, false, false, false, false, false, false, false, false, false, false, false] (by kernel_rfl) rfl rfl ⟨((HB.out.cell (World.block_lt_of_cell? w _ HY0.out)).trans HY0.out), ((HB.out.cell (World.block_lt_of_cell? w _ HY1.out)).trans HY1.out), ((HB.out.cell (World.block_lt_of_cell? w _ HY2.out)).trans HY2.out), ((HB.out.cell (World.block_lt_of_cell? w _ HY3.out)).trans HY3.out), ((HB.out.cell (World.block_lt_of_cell? w _ HY4.out)).trans HY4.out), ((HB.out.cell (World.block_lt_of_cell? w _ HY5.out)).trans HY5.out), ((HB.out.cell (World.block_lt_of_cell? w _ HY6.out)).trans HY6.out), (blk_cell HT.out 0).trans rfl⟩ (fun hHeld => ?_)
      generalize w2.drew = wd at HB HO HT hHeld ⊢
      refine pure_ (i := 0) (N := some 30) (v := ?_) (a' := ?_) #[true, false, false, false, false, false, false, false, false, false, false, false, false, false, false, false, false] rfl rfl (by kernel_rfl) (fun _ _ _ h => h) (Or.inl ⟨by rfl, ?_⟩) ?_ ?_
      rotate_left
      · intro w'
        go_simp
        with_reducible rfl
      rotate_left
      · simp only [Act.put, List.setIfInBounds_toArray, List.set_cons_zero, List.set_cons_succ, i64_w, i32_w]
        rfl
      refine pure_ (i := 1) (N := some 31) (v := ?_) (a' := ?_) #[true, true, false, false, false, false, false, false, false, false, false, false, false, false, false, false, false] rfl rfl (by kernel_rfl) (fun _ _ _ h => h) (Or.inl ⟨by rfl, ?_⟩) ?_ ?_
      rotate_left
      · intro w'
        go_simp
        with_reducible rfl
      rotate_left
      · simp only [Act.put, List.setIfInBounds_toArray, List.set_cons_zero, List.set_cons_succ, i64_w, i32_w]
        rfl
      refine pure_ (i := 2) (N := some 32) (v := ?_) (a' := ?_) #[true, true, true, false, false, false, false, false, false, false, false, false, false, false, false, false, false] rfl rfl (by kernel_rfl) (fun _ _ _ h => h) (Or.inl ⟨by rfl, ?_⟩) ?_ ?_
      rotate_left
      · intro w'
        go_simp
        with_reducible rfl
      rotate_left
      · simp only [Act.put, List.setIfInBounds_toArray, List.set_cons_zero, List.set_cons_succ, i64_w, i32_w]
        rfl
      refine pure_ (i := 3) (N := some 33) (v := ?_) (a' := ?_) #[true, true, true, true, false, false, false, false, false, false, false, false, false, false, false, false, false] rfl rfl (by kernel_rfl) (fun _ _ _ h => h) (Or.inl ⟨by rfl, ?_⟩) ?_ ?_
      rotate_left
      · intro w'
        go_simp
        with_reducible rfl
      rotate_left
      · simp only [Act.put, List.setIfInBounds_toArray, List.set_cons_zero, List.set_cons_succ, i64_w, i32_w]
        rfl
      refine pure_ (i := 4) (N := some 34) (v := ?_) (a' := ?_) #[true, true, true, true, true, false, false, false, false, false, false, false, false, false, false, false, false] rfl rfl (by kernel_rfl) (fun _ _ _ h => h) (Or.inl ⟨by rfl, ?_⟩) ?_ ?_
      rotate_left
      · intro w'
        go_simp
        with_reducible rfl
      rotate_left
      · simp only [Act.put, List.setIfInBounds_toArray, List.set_cons_zero, List.set_cons_succ, i64_w, i32_w]
        rfl
      refine pure_ (i := 5) (N := some 35) (v := ?_) (a' := ?_) #[true, true, true, true, true, true, false, false, false, false, false, false, false, false, false, false, false] rfl rfl (by kernel_rfl) (fun _ _ _ h => h) (Or.inl ⟨by rfl, ?_⟩) ?_ ?_
      rotate_left
      · intro w'
        go_simp
        with_reducible rfl
      rotate_left
      · simp only [Act.put, List.setIfInBounds_toArray, List.set_cons_zero, List.set_cons_succ, i64_w, i32_w]
        rfl
      refine pure_ (i := 6) (N := some 36) (v := ?_) (a' := ?_) #[true, true, true, true, true, true, true, false, false, false, false, false, false, false, false, false, false] rfl rfl (by kernel_rfl) (fun _ _ _ h => h) (Or.inl ⟨by rfl, ?_⟩) ?_ ?_
      rotate_left
      · intro w'
        go_simp
        with_reducible rfl
      rotate_left
      · simp only [Act.put, List.setIfInBounds_toArray, List.set_cons_zero, List.set_cons_succ, i64_w, i32_w]
        rfl
      refine pure_ (i := 7) (N := some 37) (v := ?_) (a' := ?_) #[true, true, true, true, true, true, true, true, false, false, false, false, false, false, false, false, false] rfl rfl (by kernel_rfl) (fun _ _ _ h => h) (Or.inl ⟨by rfl, ?_⟩) ?_ ?_
      rotate_left
      · intro w'
        go_simp
        with_reducible rfl
      rotate_left
      · simp only [Act.put, List.setIfInBounds_toArray, List.set_cons_zero, List.set_cons_succ, i64_w, i32_w]
        rfl
      refine pure_ (i := 8) (N := some 38) (v := ?_) (a' := ?_) #[true, true, true, true, true, true, true, true, true, false, false, false, false, false, false, false, false] rfl rfl (by kernel_rfl) (fun _ _ _ h => h) (Or.inl ⟨by rfl, ?_⟩) ?_ ?_
      rotate_left
      · intro w'
        go_simp
        with_reducible rfl
      rotate_left
      · simp only [Act.put, List.setIfInBounds_toArray, List.set_cons_zero, List.set_cons_succ, i64_w, i32_w]
        rfl
      refine pure_ (i := 9) (N := some 39) (v := ?_) (a' := ?_) #[true, true, true, true, true, true, true, true, true, true, false, false, false, false, false, false, false] rfl rfl (by kernel_rfl) (fun _ _ _ h => h) (Or.inl ⟨by rfl, ?_⟩) ?_ ?_
      rotate_left
      · intro w'
        go_simp
        with_reducible rfl
      rotate_left
      · simp only [Act.put, List.setIfInBounds_toArray, List.set_cons_zero, List.set_cons_succ, i64_w, i32_w]
        rfl
      refine pure_ (i := 11) (N := some 41) (v := ?_) (a' := ?_) #[true, true, true, true, true, true, true, true, true, true, false, true, false, false, false, false, false] rfl rfl (by kernel_rfl) (fun _ _ _ h => h) (Or.inl ⟨by rfl, ?_⟩) ?_ ?_
      rotate_left
      · intro w'
        go_simp
        with_reducible rfl
      rotate_left
      · simp only [Act.put, List.setIfInBounds_toArray, List.set_cons_zero, List.set_cons_succ, i64_w, i32_w]
        rfl
      refine take_ (i := 10) (N := some 40) (v := ?_) (a' := ?_) #[true, true, true, true, true, true, true, true, true, true, true, true, false, false, false, false, false] rfl rfl (by kernel_rfl) (fun _ _ _ h => h) (Or.inl ⟨by rfl, ?_⟩) hHeld ?_ ?_
      rotate_left
      · rintro w' ⟨s0, s1, s2, s3, s4, s5, s6, s7⟩
        go_simp
        with_reducible rfl
      rotate_left
      · simp only [Act.put, List.setIfInBounds_toArray, List.set_cons_zero, List.set_cons_succ, i64_w, i32_w]
        rfl
      refine take_ (i := 12) (N := some 42) (v := ?_) (a' := ?_) #[true, true, true, true, true, true, true, true, true, true, true, true, true, false, false, false, false] rfl rfl (by kernel_rfl) (fun _ _ _ h => h) (Or.inl ⟨by rfl, ?_⟩) hHeld ?_ ?_
      rotate_left
      · rintro w' ⟨s0, s1, s2, s3, s4, s5, s6, s7⟩
        go_simp
        with_reducible rfl
      rotate_left
      · simp only [Act.put, List.setIfInBounds_toArray, List.set_cons_zero, List.set_cons_succ, i64_w, i32_w]
        rfl
      refine one_ (i := 13) (N := some 43) #[true, true, true, true, true, true, true, true, true, true, true, true, true, true, false, false, false] rfl rfl (by kernel_rfl) (by decide) (fun K hK => ?_)
      refine goes_ Try.func100 (by kernel_rfl) rfl #[.agg #[.int .u64 p.f0, .int .u64 p.f1, .int .u64 p.f2, .int .u64 p.f3, .int .u64 p.f4, .slice P5 p.f5.length d5, .bool p.f6], .int .u64 c.f0] (by rfl) rfl rfl (by (try simp only [List.map_toArray, List.map_cons, List.map_nil]); (rfl)) ?_
      refine (ledger_order.calls p.f0 p.f1 p.f2 p.f3 p.f4 P5 d5 p.f5 p.f6 c.f0 oo _ (Kd.C_below HJ5.out HB.out) HM5.out HFO.out).mono ?_
      rintro e w6 ⟨rfl, hb⟩
      refine ⟨_, rfl, ?_⟩
      replace HB := aM_ (below_then HB.out HB.out.size hb)
      replace HO := aM_ (own_below HO.out hb)
      replace HT := aM_ (blk_below HT.out hb)
      clear hb
      refine hK.out _ _ ⟨((HB.out.cell (World.block_lt_of_cell? w _ HY0.out)).trans HY0.out), ((HB.out.cell (World.block_lt_of_cell? w _ HY1.out)).trans HY1.out), ((HB.out.cell (World.block_lt_of_cell? w _ HY2.out)).trans HY2.out), ((HB.out.cell (World.block_lt_of_cell? w _ HY3.out)).trans HY3.out), ((HB.out.cell (World.block_lt_of_cell? w _ HY4.out)).trans HY4.out), ((HB.out.cell (World.block_lt_of_cell? w _ HY5.out)).trans HY5.out), ((HB.out.cell (World.block_lt_of_cell? w _ HY6.out)).trans HY6.out), (blk_cell HT.out 0).trans rfl⟩ (fun hHeld => ?_)
      clear hK K
      refine norm_ (a' := ?_) ?_ ?_
      rotate_left
      · show Act.put _ (some 43) _ = _
        simp only [Act.put, List.setIfInBounds_toArray, List.set_cons_zero, List.set_cons_succ, i64_w, i32_w]
        rfl
      refine pure_ (i := 14) (N := some 44) (v := ?_) (a' := ?_) #[true, true, true, true, true, true, true, true, true, true, true, true, true, true, true, false, false] rfl rfl (by kernel_rfl) (fun _ _ _ h => h) (Or.inl ⟨by rfl, ?_⟩) ?_ ?_
      rotate_left
      · intro w'
        go_simp
        with_reducible rfl
      rotate_left
      · simp only [Act.put, List.setIfInBounds_toArray, List.set_cons_zero, List.set_cons_succ, i64_w, i32_w]
        rfl
      refine pure_ (i := 15) (N := some 45) (v := ?_) (a' := ?_) #[true, true, true, true, true, true, true, true, true, true, true, true, true, true, true, true, false] rfl rfl (by kernel_rfl) (fun _ _ _ h => h) (Or.inl ⟨by rfl, ?_⟩) ?_ ?_
      rotate_left
      · intro w'
        go_simp
        with_reducible rfl
      rotate_left
      · simp only [Act.put, List.setIfInBounds_toArray, List.set_cons_zero, List.set_cons_succ, i64_w, i32_w]
        rfl
      refine pure_ (i := 16) (N := some 46) (v := ?_) (a' := ?_) #[true, true, true, true, true, true, true, true, true, true, true, true, true, true, true, true, true] rfl rfl (by kernel_rfl) (fun _ _ _ h => h) (Or.inl ⟨by rfl, ?_⟩) ?_ ?_
      rotate_left
      · intro w'
        go_simp
        with_reducible rfl
      rotate_left
      · simp only [Act.put, List.setIfInBounds_toArray, List.set_cons_zero, List.set_cons_succ, i64_w, i32_w]
        rfl
      refine done_ (by kernel_rfl) ?_
      go_wp2
      go_meet
      case rel => exact ⟨rfl, HO, HB, HT⟩
   case rest =>
   clear HB HO HT HPV HBO
   obtain ⟨rfl, HO, HB, HT⟩ := hcut
   have HGT : Aside0 (w.heap.size ≤ wr.heap.size) := ⟨HBR.out.size⟩
   cases bo with
   | true =>
    rw [if_pos rfl] at h
    injection h with h
    subst h
    go_wp2
    go_ret2
    exact read_err HB.out
   | false =>
   rw [if_neg (by decide)] at h
   obtain ⟨⟨ya, ye⟩, h1, h_⟩ := oB_ h
   replace h := h_
   clear h_
   have HF2 := aM_ h1
   clear h1
   dsimp only at h
   by_cases hye : ye = 0
   case neg =>
    rw [if_neg hye] at h
    injection h with h
    subst h
    have hyb : (ye != 0) = true := bne_iff_ne.mpr hye
    clear hye
    go_wp2_with (go_at_call 124; refine (money_Add.calls k (some ⟨wc.heap.size, 0, none⟩) 2 [sum, xa] ya ye _ (two_C wc sum xa) (Nat.le_refl _) HF2.out).mono ?_; rintro e w3 ⟨rfl, hb_⟩; clear HF2; have hb := below_then ((Below.refl wc.heap.size wc).alloc (Nat.le_refl _) (.cells #[.int .u64 sum, .int .u64 xa] 22)) (by simp) hb_; replace HB := aM_ (below_then HB.out HB.out.size hb); replace HO := aM_ (own_below HO.out hb); replace HT := aM_ (blk_below HT.out hb); obtain ⟨ht0, ht1, ht2, ht3, ht4, ht5, ht6, ht7, ht8, ht9, ht10, ht11, ht12, ht13⟩ := cz7_ HT.out; clear hb hb_)
    go_ret2
    exact read_err HB.out
   subst hye
   rw [if_pos rfl] at h
   obtain ⟨rr, h1, h_⟩ := oB_ h
   replace h := h_
   clear h_
   have HFH := aM_ h1
   have HFR := aM_ h
   clear h1 h
   go_wp2_with (go_at_call 124; refine (money_Add.calls k (some ⟨wc.heap.size, 0, none⟩) 2 [sum, xa] ya 0 _ (two_C wc sum xa) (Nat.le_refl _) HF2.out).mono ?_; rintro e w3 ⟨rfl, hb_⟩; clear HF2; have hb := below_then ((Below.refl wc.heap.size wc).alloc (Nat.le_refl _) (.cells #[.int .u64 sum, .int .u64 xa] 22)) (by simp) hb_; replace HB := aM_ (below_then HB.out HB.out.size hb); replace HO := aM_ (own_below HO.out hb); replace HT := aM_ (blk_below HT.out hb); obtain ⟨ht0, ht1, ht2, ht3, ht4, ht5, ht6, ht7, ht8, ht9, ht10, ht11, ht12, ht13⟩ := cz7_ HT.out; clear hb hb_)
   have hdl : c.f5.length ≤ 9223372036854775807 := by have := HI5.out.2.1; (exact this)
   go_loopw [59] (fun vj wr2 => ∃ (j : Nat) (ps2 : List (Int × Int)), j ≤ c.f5.length ∧ vj = .int .i64 j ∧ Aside0 (Go.World.ownsMap (H := Unit) wr2 Try.prog 22 (Go.plainElem Try.prog 3) w.heap.size ps2.length (ledger_read.mp ps2)) ∧ Aside0 (Below w.heap.size w wr2) ∧ Aside0 (ledger_read.holds (i : Int) ps2 (c.f5.drop j) = some rr)) (fun vj _ => c.f5.length - (intOf vj).toNat)
   case atStart => exact ⟨0, ps, Nat.zero_le _, rfl, HO, HB, ⟨by rw [List.drop_zero]; exact HFH.out⟩⟩
   case round =>
    clear HO HB HT HFH ht0 ht1 ht2 ht3 ht4 ht5 ht6 ht7 ht8 ht9 ht10 ht11 ht12 ht13
    obtain ⟨j, ps2, hj, rfl, HO, HB, HFH⟩ := hrel
    by_cases hjl : j < c.f5.length
    · obtain ⟨adh, eh, hc0, hc1⟩ := at_T44 HI5.out (j : Int) (by omega) (by omega)
      subst eh
      have hfh := HFH.out
      rw [drop44 hjl, ledger_read.holds] at hfh
      obtain ⟨x, hx⟩ : ∃ x, x = rd_T44 c.f5 (j : Int) := ⟨_, rfl⟩
      simp only [← hx, Int.toNat_natCast] at hc0 hc1 hfh
      clear hx HFH
      replace hc0 := cN_ HB hc0
      replace hc1 := cN_ HB hc1
      by_cases hgd : 0 ≤ x.f0 ∧ x.f0 < 18446744073709551616 ∧ ps2.length < 1000000
      case neg => rw [if_neg hgd] at hfh; cases hfh
      rw [if_pos hgd] at hfh
      have HWF : Aside0 ((Lit.int .u64 x.f0).wf = true) := ⟨by simp [Lit.wf, IntKind.min, IntKind.max, IntKind.signed, IntKind.bits]; omega⟩
      have HWI : Aside0 ((Lit.int .i64 (i : Int)).wf = true) := ⟨by simp [Lit.wf, IntKind.min, IntKind.max, IntKind.signed, IntKind.bits]; omega⟩
      have HPL : Aside0 (ps2.length < 1000000) := ⟨hgd.2.2⟩
      have zeroE := HZE.out
      clear hgd
      by_cases hany : ps2.any (fun p => p.1 == x.f0) = true
      · rw [if_pos hany] at hfh
        injection hfh with hfh
        subst hfh
        have h := HFR.out
        injection h with h
        subst h
        have hhas : Go.Maps.has (ledger_read.mp ps2) (.int .u64 x.f0) = true := (ledger_read.mp_has x.f0 ps2).trans hany
        clear hany HFR
        have HAL := aM_ (HB.out.alloc HB.out.size (.cells #[.int .u64 x.f0, .int .u64 x.f1] 44))
        go_wp2_with (at_lookup; refine wpList_lookup_own_ok_int _ rfl _ _ 114 rfl 22 3 .i64 (Go.Maps.int_keyed Try.underlying22) Try.underlying114 Try.underlying3 (zeroE _) w.heap.size ps2.length (ledger_read.mp ps2) rfl (HO.out.alloc _) _ _ rfl (Go.Maps.keyOf_int_mk Try.underlying22 HWF.out) ?_; intro cv hat hwc; clear hat hwc)
        go_ret2
        exact read_err (by (exact HAL.out))
      · rw [if_neg hany] at hfh
        have HFH := aM_ hfh
        have hhas : Go.Maps.has (ledger_read.mp ps2) (.int .u64 x.f0) = false := (ledger_read.mp_has x.f0 ps2).trans (Bool.eq_false_iff.mpr hany)
        clear hany hfh
        go_wp2_with (first | (at_lookup; refine wpList_lookup_own_ok_int _ rfl _ _ 114 rfl 22 3 .i64 (Go.Maps.int_keyed Try.underlying22) Try.underlying114 Try.underlying3 (zeroE _) w.heap.size ps2.length (ledger_read.mp ps2) rfl (HO.out.alloc _) _ _ rfl (Go.Maps.keyOf_int_mk Try.underlying22 HWF.out) ?_; intro cv hat hwc; clear hat hwc) | (at_mapUpdate; refine wpList_mapUpdate_own _ rfl _ _ _ 114 rfl 22 3 (Go.Maps.int_keyed Try.underlying22) Try.underlying114 _ w.heap.size ps2.length _ rfl (HO.out.alloc _) (by have := HPL.out; unfold maxLen; omega) _ _ _ rfl rfl (Go.Maps.keyOf_int_mk Try.underlying22 HWF.out) (.lit (.int .i64 i)) [] (Go.plainElem_int Try.underlying3 HWI.out) ?_; intro w4 hown4 hgrow4; have HO4 := aM_ hown4; have HB4 := aM_ ((HB.out.alloc HB.out.size _).grown hgrow4 (by have := HB.out.size; simp; omega) (fun k_ hk => by injection hk with hk; omega)); clear hown4 hgrow4))
        go_roundw
        case rel => exact ⟨j + 1, ps2 ++ [(x.f0, (i : Int))], by omega, by go_num, ⟨by rw [ledger_read.mp_snoc, List.length_append]; exact HO4.out⟩, HB4, HFH⟩
        case measure => simp [intOf]; omega
    · obtain rfl : j = c.f5.length := by omega
      have hfh := HFH.out
      rw [List.drop_of_length_le (Nat.le_refl _), ledger_read.holds] at hfh
      injection hfh with hfh
      subst hfh
      go_wp2
      go_roundw
      case rel => exact ⟨i + 1, ya, ps2, some c, by omega, by go_num, rfl, ⟨by rw [if_neg (Nat.succ_ne_zero i), Nat.add_sub_cancel, HCI.out]⟩, HO, HB, HFR⟩
      case measure => simp [intOf]; omega

/-! ### ledger_Check: function 54 (by hand) -/
def ledger_Check.f (k : Nat) (l0 : List S25) : Option Int := (ledger_read.f k l0).bind fun r => some r.2
theorem ledger_Check.mono : ∀ a0 k, LeO (ledger_Check.f k a0) (ledger_Check.f (k + 1) a0) := by
  intro a0 k
  unfold ledger_Check.f
  exact LeO.bind (ledger_read.mono _ _) (fun _ => LeO.refl _)
set_option maxHeartbeats 1000000 in
theorem ledger_Check.calls (k : Nat) (A0 : Option Addr) (c0 : Nat) (l0 : List (S25)) (r : Int) (w : World) (hr0 : Kd.C k25 w A0 l0.length l0) (hc0 : l0.length ≤ c0) (h : ledger_Check.f k l0 = some r) :
    Calls Try.prog 54 #[.slice A0 l0.length c0] w fun e w' => e = .returned (.int .i64 r) ∧ Below w.heap.size w w' := by
  have HR0 := aM_ hr0
  have HC0 := aM_ hc0
  clear hr0 hc0
  unfold ledger_Check.f at h
  obtain ⟨q, h1, h2⟩ := oB_ h
  injection h2 with h2
  have HF := aM_ h1
  clear h h1
  by_cases hq : q.2 = 0
  · have hr : r = 0 := by omega
    subst hr
    have HQ := aM_ hq
    clear hq h2
    go_enter Try.func54, Try.ntmps54
    go_wp2_with (go_at_call 107; refine (ledger_read.calls k A0 c0 l0 q _ HR0.out HC0.out HF.out).mono ?_; rintro e w1 ⟨hp, _, hb⟩; obtain ⟨B, hB, he, _⟩ := hp HQ.out; subst he; have HB := aM_ hb; clear hp hb hB HF)
    go_ret
    exact ⟨rfl, HB.out⟩
  · subst h2
    have HQ := aM_ hq
    clear hq
    go_enter Try.func54, Try.ntmps54
    go_wp2_with (go_at_call 107; refine (ledger_read.calls k A0 c0 l0 q _ HR0.out HC0.out HF.out).mono ?_; rintro e w1 ⟨_, hp, hb⟩; have he := hp HQ.out; subst he; have HB := aM_ hb; clear hp hb HF)
    go_ret
    exact ⟨rfl, HB.out⟩

-- NOT PRINTED: function 99 (slices_BinarySearchFunc_uint64_99)

end Go.Proofs.Ytcfbcoinbecdfaa.P
