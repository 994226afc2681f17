-- written by a program of this session (wip/print)
import Derived.Test.YtcfbcoinbecdfaaQKeepsx0
import Derived.Test.YtcfbcoinbecdfaaQKeepsx4
import Derived.Test.YtcfbcoinbecdfaaQKeepsx5
namespace Go.Proofs.Ytcfbcoinbecdfaa.P
open Go.RowKit Go.Proofs.YtcfbcoinbecdfaaW.PrintWords Go.Proofs.YtcfbcoinbecdfaaW.PrintLast Go.Proofs.YtcfbcoinbecdfaaW.PrintMore
attribute [local go_sem] max2_int min2_int max_two min_two max_three min_three max_four min_four run_sub64_   -- for this text's walks alone
set_option linter.unusedVariables false
set_option linter.unusedSimpArgs false

/-! ### damsonlaw09_ChannelKeeps: function 8 (by hand) -/
/-- Where a row lies is not in the block g. -/
def Away (g : Nat) (A : Option Addr) : Prop := ∀ a, A = some a → a.block ≠ g
theorem add_block (a : Addr) (j : Nat) : (a.add j).block = a.block := by unfold Addr.add; split <;> rfl
theorem C44_put {w : World} {A : Option Addr} {n : Nat} {xs : List S44} (h : Kd.C k44 w A n xs) {g : Nat} (ha : Away g A) (j : Nat) (v : Value) : Kd.C k44 (w.setCell ⟨g, j, none⟩ v) A n xs := by
  obtain ⟨h1, h2, h3⟩ := h
  refine ⟨h1, h2, fun hn => ?_⟩
  obtain ⟨a, e, hx⟩ := h3 hn
  refine ⟨a, e, fun i p hp => ?_⟩
  obtain ⟨c, q1, q2, q3⟩ := hx i p hp
  exact ⟨c, q1, q2, fun i' u hu => (cell_far (by rw [add_block]; exact ha a e) v).trans (q3 i' u hu)⟩
theorem R44_away {w : World} {base : Nat} {ok : Nat → Prop} {A : Option Addr} {n c : Nat} {xs : List S44} (h : Kd.R k44 44 w base ok (.slice A n c) xs) {g : Nat} (hg : g < base) : Away g A := by
  obtain ⟨hb0, in0, hown0, hr0⟩ := h
  rcases hown0 with ⟨hl0, ⟨e, h0⟩ | ⟨g1, cap, cur, e, hgb, _⟩⟩
  · injection e with e1
    subst e1
    intro a h; cases h
  · injection e with e1
    subst e1
    intro a h
    injection h with h
    subst h
    show g1 ≠ g
    omega
theorem C_away {w : World} {A : Option Addr} {n : Nat} {xs : List S44} (h : Kd.C k44 w A n xs) : xs = [] ∨ Away w.heap.size A := by
  rcases Nat.eq_zero_or_pos n with h0 | h0
  · left
    have := h.1
    cases xs with
    | nil => rfl
    | cons x xs => simp at this; omega
  · right
    obtain ⟨a, e, hx⟩ := h.2.2 h0
    intro a' e'
    rw [e] at e'
    injection e' with e'
    subst e'
    have hl := h.1
    obtain ⟨p, hp⟩ : ∃ p, xs[0]? = some p := ⟨_, List.getElem?_eq_getElem (by omega)⟩
    obtain ⟨c, q1, q2, q3⟩ := hx 0 p hp
    have hc : 0 < c.length := by rw [q1]; decide
    have := World.block_lt_of_cell? w _ (q3 0 _ (List.getElem?_eq_getElem hc))
    rw [add_block] at this
    omega
/-- A whole channel is stored. -/
def put7 (w : World) (g : Nat) (c : S25) (v : Value) : World := ((((((w.setCell ⟨g, 0, none⟩ (.int .u64 c.f0)).setCell ⟨g, 1, none⟩ (.int .u64 c.f1)).setCell ⟨g, 2, none⟩ (.int .u64 c.f2)).setCell ⟨g, 3, none⟩ (.int .u64 c.f3)).setCell ⟨g, 4, none⟩ (.int .u64 c.f4)).setCell ⟨g, 5, none⟩ v).setCell ⟨g, 6, none⟩ (.bool c.f6)
theorem put7_below {B : Nat} {w0 w : World} {g : Nat} {c : S25} {v : Value} (h : Below B w0 w) (hg : B ≤ g) : Below B w0 (put7 w g c v) := by
  unfold put7
  exact ((((((h.setCell hg _).setCell hg _).setCell hg _).setCell hg _).setCell hg _).setCell hg _).setCell hg _
theorem put7_far {w : World} {g g' : Nat} {c : S25} {v : Value} {cs : Array Value} {t : TypeId} (h : w.heap[g']? = some (.cells cs t (0, 0))) (hne : g' ≠ g) : (put7 w g c v).heap[g']? = some (.cells cs t (0, 0)) := by
  unfold put7
  exact blk_far (blk_far (blk_far (blk_far (blk_far (blk_far (blk_far h hne _) hne _) hne _) hne _) hne _) hne _) hne _
theorem put7_self {w : World} {g : Nat} {c : S25} {v a0 a1 a2 a3 a4 a5 a6 : Value} {t : TypeId} (h : w.heap[g]? = some (.cells #[a0, a1, a2, a3, a4, a5, a6] t (0, 0))) : (put7 w g c v).heap[g]? = some (.cells #[.int .u64 c.f0, .int .u64 c.f1, .int .u64 c.f2, .int .u64 c.f3, .int .u64 c.f4, v, .bool c.f6] t (0, 0)) := by
  unfold put7
  have h7 := blk_set (blk_set (blk_set (blk_set (blk_set (blk_set (blk_set h 0 (.int .u64 c.f0)) 1 (.int .u64 c.f1)) 2 (.int .u64 c.f2)) 3 (.int .u64 c.f3)) 4 (.int .u64 c.f4)) 5 v) 6 (.bool c.f6)
  simp only [List.setIfInBounds_toArray, List.set_cons_zero, List.set_cons_succ] at h7
  exact h7
theorem C44_nil {w w' : World} {A : Option Addr} {xs : List S44} (h : Kd.C k44 w A xs.length xs) (h0 : xs = []) : Kd.C k44 w' A xs.length xs := by
  subst h0
  exact ⟨rfl, h.2.1, fun hn => absurd hn (Nat.lt_irrefl 0)⟩
theorem put7_C {w : World} {g : Nat} {c : S25} {v : Value} {A : Option Addr} {n : Nat} {xs : List S44} (h : Kd.C k44 w A n xs) (ha : Away g A) : Kd.C k44 (put7 w g c v) A n xs := by
  unfold put7
  exact C44_put (C44_put (C44_put (C44_put (C44_put (C44_put (C44_put h ha _ _) ha _ _) ha _ _) ha _ _) ha _ _) ha _ _) ha _ _
theorem put7_C' {w : World} {g : Nat} {c : S25} {v : Value} {A : Option Addr} {xs : List S44} (h : Kd.C k44 w A xs.length xs) (ha : xs = [] ∨ Away g A) : Kd.C k44 (put7 w g c v) A xs.length xs := by
  rcases ha with h0 | ha
  · exact C44_nil h h0
  · exact put7_C h ha
theorem rd_mem9 {l : List Int} {i : Nat} (h : i < l.length) : rd l (i : Int) ∈ l := by
  simp only [rd, Int.toNat_natCast, List.getD_eq_getElem?_getD, List.getElem?_eq_getElem h, Option.getD_some]
  exact List.getElem_mem h
def damsonlaw09_ChannelKeeps.p8 (r : Int × Int × Int × Int × Int × List S44 × Bool × Int) : S25 × Int := (⟨r.1, r.2.1, r.2.2.1, r.2.2.2.1, r.2.2.2.2.1, r.2.2.2.2.2.1, r.2.2.2.2.2.2.1⟩, r.2.2.2.2.2.2.2)
def damsonlaw09_ChannelKeeps.p9 (r : Int × Int × Int × Int × Int × List S44 × Bool × Int × Int) : S25 × Int := (⟨r.1, r.2.1, r.2.2.1, r.2.2.2.1, r.2.2.2.2.1, r.2.2.2.2.2.1, r.2.2.2.2.2.2.1⟩, r.2.2.2.2.2.2.2.2)
def damsonlaw09_ChannelKeeps.one (k : Nat) (c : S25) (m id n : Int) : Option (S25 × Int) :=
  if m = 0 ∨ m = 1 then (channel_Hold.f k c.f0 c.f1 c.f2 c.f3 c.f4 c.f5 c.f6 id n).bind fun r => some (damsonlaw09_ChannelKeeps.p8 r)
  else if m = 2 then (channel_Settle.f k c.f0 c.f1 c.f2 c.f3 c.f4 c.f5 c.f6 id).bind fun r => some (damsonlaw09_ChannelKeeps.p9 r)
  else if m = 3 then (channel_Fail.f k c.f0 c.f1 c.f2 c.f3 c.f4 c.f5 c.f6 id).bind fun r => some (damsonlaw09_ChannelKeeps.p9 r)
  else (channel_Push.f k c.f0 c.f1 c.f2 c.f3 c.f4 c.f5 c.f6 n).bind fun r => some (damsonlaw09_ChannelKeeps.p8 r)
def damsonlaw09_ChannelKeeps.sum (s : Int) : List S44 → Int
  | [] => s
  | x :: xs => damsonlaw09_ChannelKeeps.sum (IntKind.u64.wrap (s + x.f1)) xs
def damsonlaw09_ChannelKeeps.rounds (k : Nat) (all : Int) : List (Int × Int × Int) → S25 → Option Bool
  | [], _ => some true
  | z :: zs, c => (damsonlaw09_ChannelKeeps.one k c (z.1 % 5) z.2.1 z.2.2).bind fun a =>
    if a.2 = 0 then (channel_All.f k a.1.f0 a.1.f1 a.1.f2 a.1.f3 a.1.f4 a.1.f5 a.1.f6).bind fun x => (channel_Held.f k a.1.f0 a.1.f1 a.1.f2 a.1.f3 a.1.f4 a.1.f5 a.1.f6).bind fun y =>
      if (z.1 % 5 < 2 → ¬ a.1.f1 < a.1.f3) ∧ x = (all, 0) ∧ y = (damsonlaw09_ChannelKeeps.sum 0 a.1.f5, 0) ∧ a.1.f0 = c.f0 ∧ a.1.f3 = c.f3 then damsonlaw09_ChannelKeeps.rounds k all zs a.1 else none
    else if a.1.f5 = [] ∧ a.1.f6 = false then damsonlaw09_ChannelKeeps.rounds k all zs c else none
def damsonlaw09_ChannelKeeps.g (k : Nat) (c : S25) (l1 l2 l3 : List Int) : Option Bool := (damsonlaw09_live.f k).bind fun t1 => if t1 = true then
  (if 70 < c.f5.length then some true else if 40 < l1.length then some true else (channel_All.f k c.f0 c.f1 c.f2 c.f3 c.f4 c.f5 c.f6).bind fun x => if x.2 = 0 then damsonlaw09_ChannelKeeps.rounds k x.1 (l1.zip (l2.zip l3)) c else
    (channel_Check.f k c.f0 c.f1 c.f2 c.f3 c.f4 c.f5 c.f6).bind fun e => if x.1 = 0 ∧ e = x.2 then some true else none) else none
def damsonlaw09_ChannelKeeps.f (k : Nat) (a0_0 : Int) (a0_1 : Int) (a0_2 : Int) (a0_3 : Int) (a0_4 : Int) (l0_5 : List (S44)) (a0_6 : Bool) (l1 l2 l3 : List Int) : Option (Bool) := if (l1.all fun y => decide (0 ≤ y ∧ y ≤ 255)) = true then damsonlaw09_ChannelKeeps.g k ⟨a0_0, a0_1, a0_2, a0_3, a0_4, l0_5, a0_6⟩ l1 l2 l3 else none
theorem damsonlaw09_ChannelKeeps.mono_o (k : Nat) (c : S25) (m id n : Int) : LeO (damsonlaw09_ChannelKeeps.one k c m id n) (damsonlaw09_ChannelKeeps.one (k + 1) c m id n) := by
  unfold damsonlaw09_ChannelKeeps.one
  repeat' first
    | (with_reducible exact LeO.refl _)
    | apply channel_Hold.mono
    | apply channel_Settle.mono
    | apply channel_Fail.mono
    | apply channel_Push.mono
    | (with_reducible refine LeO.ite ?_ ?_)
    | (with_reducible refine LeO.bind ?_ (fun _ => ?_))
theorem damsonlaw09_ChannelKeeps.mono_r (k : Nat) (all : Int) : ∀ zs c, LeO (damsonlaw09_ChannelKeeps.rounds k all zs c) (damsonlaw09_ChannelKeeps.rounds (k + 1) all zs c)
  | [], _ => LeO.refl _
  | z :: zs, c => by
    have ih := damsonlaw09_ChannelKeeps.mono_r k all zs
    unfold damsonlaw09_ChannelKeeps.rounds
    repeat' first
      | (with_reducible exact LeO.refl _)
      | (with_reducible exact ih _)
      | apply damsonlaw09_ChannelKeeps.mono_o
      | apply channel_All.mono
      | apply channel_Held.mono
      | (with_reducible refine LeO.ite ?_ ?_)
      | (with_reducible refine LeO.bind ?_ (fun _ => ?_))
theorem damsonlaw09_ChannelKeeps.mono : ∀ a0 a1 a2 a3 a4 a5 a6 a7 a8 a9 k, LeO (damsonlaw09_ChannelKeeps.f k a0 a1 a2 a3 a4 a5 a6 a7 a8 a9) (damsonlaw09_ChannelKeeps.f (k + 1) a0 a1 a2 a3 a4 a5 a6 a7 a8 a9) := by
  intro a0 a1 a2 a3 a4 a5 a6 a7 a8 a9 k
  unfold damsonlaw09_ChannelKeeps.f damsonlaw09_ChannelKeeps.g
  repeat' first
    | (with_reducible exact LeO.refl _)
    | apply damsonlaw09_live.mono
    | apply channel_All.mono
    | apply channel_Check.mono
    | apply damsonlaw09_ChannelKeeps.mono_r
    | (with_reducible refine LeO.ite ?_ ?_)
    | (with_reducible refine LeO.bind ?_ (fun _ => ?_))
theorem damsonlaw09_ChannelKeeps.one_hold {k : Nat} {c d : S25} {m id n e : Int} (h : damsonlaw09_ChannelKeeps.one k c m id n = some (d, e)) (hm : m = 0 ∨ m = 1) : channel_Hold.f k c.f0 c.f1 c.f2 c.f3 c.f4 c.f5 c.f6 id n = some (d.f0, d.f1, d.f2, d.f3, d.f4, d.f5, d.f6, e) := by
  unfold damsonlaw09_ChannelKeeps.one at h
  rw [if_pos hm] at h
  obtain ⟨r, h1, h⟩ := Option.bind_eq_some_iff.mp h
  rw [h1]
  injection h with h
  injection h with h2 h3
  subst h2 h3
  rfl
theorem damsonlaw09_ChannelKeeps.one_settle {k : Nat} {c d : S25} {id n e : Int} (h : damsonlaw09_ChannelKeeps.one k c 2 id n = some (d, e)) : ∃ q, channel_Settle.f k c.f0 c.f1 c.f2 c.f3 c.f4 c.f5 c.f6 id = some (d.f0, d.f1, d.f2, d.f3, d.f4, d.f5, d.f6, q, e) := by
  unfold damsonlaw09_ChannelKeeps.one at h
  rw [if_neg (by decide), if_pos rfl] at h
  obtain ⟨r, h1, h⟩ := Option.bind_eq_some_iff.mp h
  rw [h1]
  injection h with h
  injection h with h2 h3
  subst h2 h3
  exact ⟨_, rfl⟩
theorem damsonlaw09_ChannelKeeps.one_fail {k : Nat} {c d : S25} {id n e : Int} (h : damsonlaw09_ChannelKeeps.one k c 3 id n = some (d, e)) : ∃ q, channel_Fail.f k c.f0 c.f1 c.f2 c.f3 c.f4 c.f5 c.f6 id = some (d.f0, d.f1, d.f2, d.f3, d.f4, d.f5, d.f6, q, e) := by
  unfold damsonlaw09_ChannelKeeps.one at h
  rw [if_neg (by decide), if_neg (by decide), if_pos rfl] at h
  obtain ⟨r, h1, h⟩ := Option.bind_eq_some_iff.mp h
  rw [h1]
  injection h with h
  injection h with h2 h3
  subst h2 h3
  exact ⟨_, rfl⟩
theorem damsonlaw09_ChannelKeeps.one_push {k : Nat} {c d : S25} {id n e : Int} (h : damsonlaw09_ChannelKeeps.one k c 4 id n = some (d, e)) : channel_Push.f k c.f0 c.f1 c.f2 c.f3 c.f4 c.f5 c.f6 n = some (d.f0, d.f1, d.f2, d.f3, d.f4, d.f5, d.f6, e) := by
  unfold damsonlaw09_ChannelKeeps.one at h
  rw [if_neg (by decide), if_neg (by decide), if_neg (by decide)] at h
  obtain ⟨r, h1, h⟩ := Option.bind_eq_some_iff.mp h
  rw [h1]
  injection h with h
  injection h with h2 h3
  subst h2 h3
  rfl
theorem zip3 {l m n : List Int} {i : Nat} (h : i < l.length) (g : i < m.length) (f : i < n.length) : (l.zip (m.zip n)).drop i = (rd l (i : Int), rd m (i : Int), rd n (i : Int)) :: (l.zip (m.zip n)).drop (i + 1) := by
  rw [List.drop_eq_getElem_cons (by rw [List.length_zip, List.length_zip]; omega), List.getElem_zip, List.getElem_zip]
  simp only [rd, Int.toNat_natCast, List.getD_eq_getElem?_getD, List.getElem?_eq_getElem h, List.getElem?_eq_getElem g, List.getElem?_eq_getElem f, Option.getD_some]
def damsonlaw09_ChannelKeeps.T15 : Bool × List (List Nat × List Nat) := (true, [([], []), ([], []), ([], []), ([1, 2], [1, 2]), ([3], [3]), ([0, 4], [0, 4]), ([5], [5]), ([6], [6]), ([6], [6]), ([7, 5, 0, 1, 2, 3, 4, 5, 6, 7], [7]), ([8, 9, 0, 1, 2, 3, 4, 5, 6, 7, 8, 9], [8])])
def damsonlaw09_ChannelKeeps.B15 : List Nat := [0, 0, 0, 6, 14, 31, 63, 127, 127, 255, 1023]
theorem damsonlaw09_ChannelKeeps.tab15 : rtab .any (opsOf Try.f8 15) = damsonlaw09_ChannelKeeps.T15 := by kernel_rfl
theorem damsonlaw09_ChannelKeeps.bits15 : waitsOk damsonlaw09_ChannelKeeps.T15.2 damsonlaw09_ChannelKeeps.B15 = true := by kernel_rfl
def damsonlaw09_ChannelKeeps.T18 : Bool × List (List Nat × List Nat) := (true, [([], []), ([], []), ([], []), ([1, 2], [1, 2]), ([3], [3]), ([], []), ([], []), ([5, 6], [5, 6]), ([7], [7]), ([0, 4, 8], [0, 4, 8]), ([9], [9]), ([10], [10]), ([10], [10]), ([11, 9, 0, 1, 2, 3, 4, 5, 6, 7, 8, 9, 10, 11], [11]), ([12, 13, 0, 1, 2, 3, 4, 5, 6, 7, 8, 9, 10, 11, 12, 13], [12])])
def damsonlaw09_ChannelKeeps.B18 : List Nat := [0, 0, 0, 6, 14, 0, 0, 96, 224, 511, 1023, 2047, 2047, 4095, 16383]
theorem damsonlaw09_ChannelKeeps.tab18 : rtab .any (opsOf Try.f8 18) = damsonlaw09_ChannelKeeps.T18 := by kernel_rfl
theorem damsonlaw09_ChannelKeeps.bits18 : waitsOk damsonlaw09_ChannelKeeps.T18.2 damsonlaw09_ChannelKeeps.B18 = true := by kernel_rfl
def damsonlaw09_ChannelKeeps.T22 : Bool × List (List Nat × List Nat) := (true, [([], []), ([], []), ([], []), ([1, 2], [1, 2]), ([3], [3]), ([0, 4], [0, 4]), ([5], [5]), ([6], [6]), ([6], [6]), ([6], [6]), ([7, 5, 0, 1, 2, 3, 4, 5, 6, 7], [7]), ([9, 10, 0, 1, 2, 3, 4, 5, 6, 7, 8, 9, 10], [9])])
def damsonlaw09_ChannelKeeps.B22 : List Nat := [0, 0, 0, 6, 14, 31, 63, 127, 127, 127, 255, 2047]
theorem damsonlaw09_ChannelKeeps.tab22 : rtab .any (opsOf Try.f8 22) = damsonlaw09_ChannelKeeps.T22 := by kernel_rfl
theorem damsonlaw09_ChannelKeeps.bits22 : waitsOk damsonlaw09_ChannelKeeps.T22.2 damsonlaw09_ChannelKeeps.B22 = true := by kernel_rfl
def damsonlaw09_ChannelKeeps.T24 : Bool × List (List Nat × List Nat) := (true, [([], []), ([], []), ([], []), ([1, 2], [1, 2]), ([3], [3]), ([0, 4], [0, 4]), ([5], [5]), ([6], [6]), ([6], [6]), ([6], [6]), ([7, 5, 0, 1, 2, 3, 4, 5, 6, 7], [7]), ([9, 10, 0, 1, 2, 3, 4, 5, 6, 7, 8, 9, 10], [9])])
def damsonlaw09_ChannelKeeps.B24 : List Nat := [0, 0, 0, 6, 14, 31, 63, 127, 127, 127, 255, 2047]
theorem damsonlaw09_ChannelKeeps.tab24 : rtab .any (opsOf Try.f8 24) = damsonlaw09_ChannelKeeps.T24 := by kernel_rfl
theorem damsonlaw09_ChannelKeeps.bits24 : waitsOk damsonlaw09_ChannelKeeps.T24.2 damsonlaw09_ChannelKeeps.B24 = true := by kernel_rfl
set_option maxHeartbeats 16000000 in
set_option maxRecDepth 100000 in
theorem damsonlaw09_ChannelKeeps.callsS (k : Nat) (c : S25) (A0 : Option Addr) (c0 : Nat) (A1 : Option Addr) (c1 : Nat) (l1 : List Int) (A2 : Option Addr) (c2 : Nat) (l2 : List Int) (A3 : Option Addr) (c3 : Nat) (l3 : List Int) (r : Bool) (w : World) (hr0 : Kd.C k44 w A0 c.f5.length c.f5) (hc0 : c.f5.length ≤ c0) (hr1 : Kd.C (Kd.int .u8) w A1 l1.length l1) (hc1 : l1.length ≤ c1) (hr2 : Kd.C (Kd.int .u64) w A2 l2.length l2) (hc2 : l2.length ≤ c2) (hr3 : Kd.C (Kd.int .u64) w A3 l3.length l3) (hc3 : l3.length ≤ c3) (hu8 : ∀ y ∈ l1, 0 ≤ y ∧ y ≤ 255) (h : damsonlaw09_ChannelKeeps.g k c l1 l2 l3 = some r) :
    Calls Try.prog 8 #[.agg #[.int .u64 c.f0, .int .u64 c.f1, .int .u64 c.f2, .int .u64 c.f3, .int .u64 c.f4, .slice A0 c.f5.length c0, .bool c.f6], .slice A1 l1.length c1, .slice A2 l2.length c2, .slice A3 l3.length c3] w fun e w' => e = .returned (.bool r) ∧ Below w.heap.size w w' := by
  have HR0 := Aside0.mk hr0
  have HC0 := Aside0.mk hc0
  have HR1 := Aside0.mk hr1
  have HC1 := Aside0.mk hc1
  have HR2 := Aside0.mk hr2
  have HC2 := Aside0.mk hc2
  have HR3 := Aside0.mk hr3
  have HC3 := Aside0.mk hc3
  clear hr0 hc0 hr1 hc1 hr2 hc2 hr3 hc3
  have HU8 := Aside0.mk hu8
  clear hu8
  have HB := Aside0.mk ((Below.refl w.heap.size w).alloc (Nat.le_refl _) (.cells #[.int .u64 c.f0, .int .u64 c.f1, .int .u64 c.f2, .int .u64 c.f3, .int .u64 c.f4, .slice A0 c.f5.length c0, .bool c.f6] 25))
  have HK := Aside0.mk (blk_new w (.cells #[.int .u64 c.f0, .int .u64 c.f1, .int .u64 c.f2, .int .u64 c.f3, .int .u64 c.f4, .slice A0 c.f5.length c0, .bool c.f6] 25))
  unfold damsonlaw09_ChannelKeeps.g at h
  obtain ⟨t1, h1, h_⟩ := Option.bind_eq_some_iff.mp h
  replace h := h_
  clear h_
  have HL := Aside0.mk h1
  clear h1
  cases t1 with
  | false => rw [if_neg (by decide)] at h; cases h
  | true =>
  rw [if_pos rfl] at h
  by_cases h70 : 70 < c.f5.length
  · rw [if_pos h70] at h
    have h70b : decide ((70 : Int) < (c.f5.length : Int)) = true := decide_eq_true (by omega)
    clear h70
    injection h with h
    subst h
    go_enter Try.func8, Try.ntmps8
    go_wp2_with (first | (go_at_call 21; refine (damsonlaw09_live.calls k _ _ HL.out).mono ?_; rintro e w1 ⟨rfl, hb⟩; clear HL; replace HB := Aside0.mk (below_then HB.out HB.out.size hb); replace HK := Aside0.mk (blk_below HK.out hb); obtain ⟨hz0, hz1, hz2, hz3, hz4, hz5, hz6, hz7, hz8, hz9, hz10, hz11, hz12, hz13⟩ := cz7_ HK.out; clear hb))
    go_ret
    exact ⟨rfl, HB.out⟩
  rw [if_neg h70] at h
  have h70b : decide ((70 : Int) < (c.f5.length : Int)) = false := decide_eq_false (by omega)
  by_cases h40 : 40 < l1.length
  · rw [if_pos h40] at h
    have h40b : decide ((40 : Int) < (l1.length : Int)) = true := decide_eq_true (by omega)
    clear h40 h70
    injection h with h
    subst h
    go_enter Try.func8, Try.ntmps8
    go_wp2_with (first | (go_at_call 21; refine (damsonlaw09_live.calls k _ _ HL.out).mono ?_; rintro e w1 ⟨rfl, hb⟩; clear HL; replace HB := Aside0.mk (below_then HB.out HB.out.size hb); replace HK := Aside0.mk (blk_below HK.out hb); obtain ⟨hz0, hz1, hz2, hz3, hz4, hz5, hz6, hz7, hz8, hz9, hz10, hz11, hz12, hz13⟩ := cz7_ HK.out; clear hb))
    go_ret
    exact ⟨rfl, HB.out⟩
  rw [if_neg h40] at h
  have h40b : decide ((40 : Int) < (l1.length : Int)) = false := decide_eq_false (by omega)
  have hlen : l1.length ≤ 40 := by omega
  clear h40 h70
  obtain ⟨⟨xa, xe⟩, h1, h_⟩ := Option.bind_eq_some_iff.mp h
  replace h := h_
  clear h_
  have HFa := Aside0.mk h1
  clear h1
  dsimp only at h
  by_cases hx : xe = 0
  case neg =>
    rw [if_neg hx] at h
    have hxb : (xe != 0) = true := bne_iff_ne.mpr hx
    clear hx
    obtain ⟨ec, h1, h_⟩ := Option.bind_eq_some_iff.mp h
    replace h := h_
    clear h_
    have HFc := Aside0.mk h1
    clear h1
    by_cases hq : xa = 0 ∧ ec = xe
    · rw [if_pos hq] at h
      obtain ⟨hq1, hq2⟩ := hq
      subst hq1
      have hqb : (ec == xe) = true := beq_iff_eq.mpr hq2
      clear hq2
      injection h with h
      subst h
      go_enter Try.func8, Try.ntmps8
      go_wp2_with (first | (go_at_call 21; refine (damsonlaw09_live.calls k _ _ HL.out).mono ?_; rintro e w1 ⟨rfl, hb⟩; clear HL; replace HB := Aside0.mk (below_then HB.out HB.out.size hb); replace HK := Aside0.mk (blk_below HK.out hb); obtain ⟨hz0, hz1, hz2, hz3, hz4, hz5, hz6, hz7, hz8, hz9, hz10, hz11, hz12, hz13⟩ := cz7_ HK.out; clear hb) | (go_at_call 30; refine (channel_All.calls k c.f0 c.f1 c.f2 c.f3 c.f4 A0 c0 c.f5 c.f6 0 xe _ (Kd.C_below HR0.out HB.out) HC0.out HFa.out).mono ?_; rintro e w2 ⟨rfl, hb⟩; clear HFa; replace HB := Aside0.mk (below_then HB.out HB.out.size hb); replace HK := Aside0.mk (blk_below HK.out hb); clear hz0 hz1 hz2 hz3 hz4 hz5 hz6 hz7 hz8 hz9 hz10 hz11 hz12 hz13; obtain ⟨hz0, hz1, hz2, hz3, hz4, hz5, hz6, hz7, hz8, hz9, hz10, hz11, hz12, hz13⟩ := cz7_ HK.out; clear hb) | (go_at_call 33; refine (channel_Check.calls k c.f0 c.f1 c.f2 c.f3 c.f4 A0 c0 c.f5 c.f6 ec _ (Kd.C_below HR0.out HB.out) HC0.out HFc.out).mono ?_; rintro e w3 ⟨rfl, hb⟩; clear HFc; replace HB := Aside0.mk (below_then HB.out HB.out.size hb); replace HK := Aside0.mk (blk_below HK.out hb); clear hz0 hz1 hz2 hz3 hz4 hz5 hz6 hz7 hz8 hz9 hz10 hz11 hz12 hz13; clear hb))
      go_ret
      exact ⟨rfl, HB.out⟩
    · rw [if_neg hq] at h
      cases h
  subst hx
  rw [if_pos rfl] at h
  have hB := Aside0.mk h
  clear h
  go_enter Try.func8, Try.ntmps8
  go_wp2_with (first | (go_at_call 21; refine (damsonlaw09_live.calls k _ _ HL.out).mono ?_; rintro e w1 ⟨rfl, hb⟩; clear HL; replace HB := Aside0.mk (below_then HB.out HB.out.size hb); replace HK := Aside0.mk (blk_below HK.out hb); obtain ⟨hz0, hz1, hz2, hz3, hz4, hz5, hz6, hz7, hz8, hz9, hz10, hz11, hz12, hz13⟩ := cz7_ HK.out; clear hb) | (go_at_call 30; refine (channel_All.calls k c.f0 c.f1 c.f2 c.f3 c.f4 A0 c0 c.f5 c.f6 xa 0 _ (Kd.C_below HR0.out HB.out) HC0.out HFa.out).mono ?_; rintro e w2 ⟨rfl, hb⟩; clear HFa; replace HB := Aside0.mk (below_then HB.out HB.out.size hb); replace HK := Aside0.mk (blk_below HK.out hb); clear hz0 hz1 hz2 hz3 hz4 hz5 hz6 hz7 hz8 hz9 hz10 hz11 hz12 hz13; obtain ⟨hz0, hz1, hz2, hz3, hz4, hz5, hz6, hz7, hz8, hz9, hz10, hz11, hz12, hz13⟩ := cz7_ HK.out; clear hb))
  go_loopw [50] (fun vi wr => ∃ (i : Nat) (c' : S25) (Ac : Option Addr) (cc : Nat), i ≤ l1.length ∧ vi = .int .i64 i ∧ Aside0 (c'.f5.length ≤ cc) ∧ Aside0 (Kd.C k44 wr Ac c'.f5.length c'.f5) ∧ Aside0 (Below w.heap.size w wr) ∧ Aside0 (wr.heap[w.heap.size]? = some (.cells #[.int .u64 c'.f0, .int .u64 c'.f1, .int .u64 c'.f2, .int .u64 c'.f3, .int .u64 c'.f4, .slice Ac c'.f5.length cc, .bool c'.f6] 25 (0, 0))) ∧ Aside0 (damsonlaw09_ChannelKeeps.rounds k xa ((l1.zip (l2.zip l3)).drop i) c' = some r)) (fun vi _ => l1.length - (intOf vi).toNat)
  case atStart => exact ⟨0, c, A0, c0, Nat.zero_le _, rfl, HC0, ⟨Kd.C_below HR0.out HB.out⟩, HB, HK, ⟨by rw [List.drop_zero]; exact hB.out⟩⟩
  case round =>
   clear HB HK hB hz0 hz1 hz2 hz3 hz4 hz5 hz6 hz7 hz8 hz9 hz10 hz11 hz12 hz13
   obtain ⟨i, cq, Ac, cc, hi, rfl, HL, HM, HB, HK, HR⟩ := hrel
   by_cases hil : i < l1.length
   case neg =>
    obtain rfl : i = l1.length := by omega
    have h := HR.out
    rw [List.drop_of_length_le (by rw [List.length_zip, List.length_zip]; omega)] at h
    injection h with h
    subst h
    clear HR
    go_wp2
    go_ret
    exact ⟨rfl, HB.out⟩
   obtain ⟨ad1, e1, hx0⟩ := Kd.at_int HR1.out (i : Int) (by omega) (by omega)
   subst e1
   obtain ⟨b, hb1⟩ : ∃ b, b = rd l1 (i : Int) := ⟨_, rfl⟩
   simp only [← hb1, Int.toNat_natCast] at hx0
   have hbb : 0 ≤ b ∧ b ≤ 255 := by rw [hb1]; exact HU8.out _ (rd_mem9 hil)
   have HB1 := Aside0.mk hb1
   clear hb1
   replace hx0 := (HB.out.cell (World.block_lt_of_cell? w _ hx0)).trans hx0
   by_cases hi2 : i < l2.length
   case neg =>
    have h := HR.out
    rw [List.drop_of_length_le (by rw [List.length_zip, List.length_zip]; omega)] at h
    injection h with h
    subst h
    have hg1 : decide ((l2.length : Int) ≤ (i : Int)) = true := decide_eq_true (by omega)
    have hg2 : decide (l2.length ≤ i) = true := decide_eq_true (by omega)
    clear HR hi2 hbb
    go_wp2
    go_ret
    exact ⟨rfl, HB.out⟩
   have hg1 : decide ((l2.length : Int) ≤ (i : Int)) = false := decide_eq_false (by omega)
   have hg2 : decide (l2.length ≤ i) = false := decide_eq_false (by omega)
   by_cases hi3 : i < l3.length
   case neg =>
    have h := HR.out
    rw [List.drop_of_length_le (by rw [List.length_zip, List.length_zip]; omega)] at h
    injection h with h
    subst h
    have hg3 : decide ((l3.length : Int) ≤ (i : Int)) = true := decide_eq_true (by omega)
    have hg4 : decide (l3.length ≤ i) = true := decide_eq_true (by omega)
    clear HR hi2 hi3 hbb
    go_wp2
    go_ret
    exact ⟨rfl, HB.out⟩
   have hg3 : decide ((l3.length : Int) ≤ (i : Int)) = false := decide_eq_false (by omega)
   have hg4 : decide (l3.length ≤ i) = false := decide_eq_false (by omega)
   have HZ : Aside0 ((l1.zip (l2.zip l3)).drop i = (b, rd l2 (i : Int), rd l3 (i : Int)) :: (l1.zip (l2.zip l3)).drop (i + 1)) := ⟨by rw [HB1.out]; exact zip3 hil hi2 hi3⟩
   obtain ⟨ad2, e2, hx2⟩ := Kd.at_int HR2.out (i : Int) (by omega) (by omega)
   subst e2
   obtain ⟨id, hid⟩ : ∃ id, id = rd l2 (i : Int) := ⟨_, rfl⟩
   simp only [← hid, Int.toNat_natCast] at hx2
   have HX2 := Aside0.mk hx2
   obtain ⟨ad3, e3, hx3⟩ := Kd.at_int HR3.out (i : Int) (by omega) (by omega)
   subst e3
   obtain ⟨am, ham⟩ : ∃ am, am = rd l3 (i : Int) := ⟨_, rfl⟩
   simp only [← ham, Int.toNat_natCast] at hx3
   have HX3 := Aside0.mk hx3
   rw [← hid, ← ham] at HZ
   have h := HR.out
   rw [HZ.out, damsonlaw09_ChannelKeeps.rounds] at h
   dsimp only at h
   obtain ⟨⟨d, e⟩, h1, h_⟩ := Option.bind_eq_some_iff.mp h
   replace h := h_
   clear h_
   have HF := Aside0.mk h1
   have HT := Aside0.mk h
   clear h1 h hx2 hx3 hid ham HB1 HR
   go_upto_block 2 with (fail)
   have HQ : Aside0 (e = 0 → b % 5 < 2 → ¬ d.f1 < d.f3) := ⟨by
    intro he
    have hT := HT.out
    rw [if_pos he] at hT
    obtain ⟨x, _, hT⟩ := Option.bind_eq_some_iff.mp hT
    obtain ⟨y, _, hT⟩ := Option.bind_eq_some_iff.mp hT
    by_cases hq : (b % 5 < 2 → ¬ d.f1 < d.f3) ∧ x = (xa, 0) ∧ y = (damsonlaw09_ChannelKeeps.sum 0 d.f5, 0) ∧ d.f0 = cq.f0 ∧ d.f3 = cq.f3
    · exact hq.1
    · rw [if_neg hq] at hT; cases hT⟩
   have hb := (Below.refl wr.heap.size wr).alloc (Nat.le_refl _) (.cells #[.int .u64 0, .int .u64 0, .int .u64 0, .int .u64 0, .int .u64 0, .slice none 0 0, .bool false] 25)
   have HD := Aside0.mk (blk_new wr (.cells #[.int .u64 0, .int .u64 0, .int .u64 0, .int .u64 0, .int .u64 0, .slice none 0 0, .bool false] 25))
   have HAc := Aside0.mk (C_away HM.out)
   have HGE : Aside0 (w.heap.size ≤ wr.heap.size) := ⟨HB.out.size⟩
   have HNE : Aside0 (w.heap.size ≠ wr.heap.size) := ⟨Nat.ne_of_lt (blk_lt HK.out)⟩
   replace HB := Aside0.mk (below_then HB.out HB.out.size hb)
   replace HK := Aside0.mk (blk_below HK.out hb)
   replace HM := Aside0.mk (Kd.C_below HM.out hb)
   clear hb hx0
   generalize wr.alloc (.cells #[.int .u64 0, .int .u64 0, .int .u64 0, .int .u64 0, .int .u64 0, .slice none 0 0, .bool false] 25) = wa at HB HK HM HD ⊢
   generalize wr.heap.size = gy at HD HAc HGE HNE ⊢
   go_cut [14, 66] (fun v14 v66 wc => ∃ (Ad : Option Addr) (cd : Nat), v14 = .int .i64 e ∧ Aside0 (d.f5.length ≤ cd) ∧ Aside0 (Kd.C k44 wc Ad d.f5.length d.f5) ∧ Aside0 (Away w.heap.size Ad) ∧ Aside0 (Kd.C k44 wc Ac cq.f5.length cq.f5) ∧ Aside0 (Below w.heap.size w wc) ∧ Aside0 (wc.heap[w.heap.size]? = some (.cells #[.int .u64 cq.f0, .int .u64 cq.f1, .int .u64 cq.f2, .int .u64 cq.f3, .int .u64 cq.f4, .slice Ac cq.f5.length cc, .bool cq.f6] 25 (0, 0))) ∧ Aside0 (wc.heap[gy]? = some (.cells #[.int .u64 d.f0, .int .u64 d.f1, .int .u64 d.f2, .int .u64 d.f3, .int .u64 d.f4, .slice Ad d.f5.length cd, .bool d.f6] 25 (0, 0))))
   case first =>
    have hm : b % 5 = 0 ∨ b % 5 = 1 ∨ b % 5 = 2 ∨ b % 5 = 3 ∨ b % 5 = 4 := by omega
    clear hbb hg1 hg2 hg3 hg4
    rcases hm with hm | hm | hm | hm | hm
    · have hF := HF.out
      rw [hm] at hF
      have HFh := Aside0.mk (damsonlaw09_ChannelKeeps.one_hold hF (by decide))
      clear hF HF
      have hlt := fun he => HQ.out he (by omega)
      have HLT := Aside0.mk hlt
      clear hlt HQ
      go_wp2
      replace HB := Aside0.mk (below_drew1 HB.out)
      replace HK := Aside0.mk (blk_drew HK.out)
      replace HD := Aside0.mk (blk_drew HD.out)
      replace HM := Aside0.mk (Kd.C_drew HM.out)
      refine start_ (n := 15) (S := fun w' => w'.cell? ⟨w.heap.size, 0, none⟩ = some (.int .u64 cq.f0) ∧ w'.cell? ⟨w.heap.size, 1, none⟩ = some (.int .u64 cq.f1) ∧ w'.cell? ⟨w.heap.size, 2, none⟩ = some (.int .u64 cq.f2) ∧ w'.cell? ⟨w.heap.size, 3, none⟩ = some (.int .u64 cq.f3) ∧ w'.cell? ⟨w.heap.size, 4, none⟩ = some (.int .u64 cq.f4) ∧ w'.cell? ⟨w.heap.size, 5, none⟩ = some (.slice Ac cq.f5.length cc) ∧ w'.cell? ⟨w.heap.size, 6, none⟩ = some (.bool cq.f6) ∧ w'.cell? (ad2.add i) = some (.int .u64 id) ∧ w'.cell? (ad3.add i) = some (.int .u64 am)) (ds := []) #[false, false, false, false, false, false, false, false, false, false, false, false, false, false, false] (by kernel_rfl) rfl rfl ⟨(blk_cell HK.out 0).trans rfl, (blk_cell HK.out 1).trans rfl, (blk_cell HK.out 2).trans rfl, (blk_cell HK.out 3).trans rfl, (blk_cell HK.out 4).trans rfl, (blk_cell HK.out 5).trans rfl, (blk_cell HK.out 6).trans rfl, ((HB.out.cell (World.block_lt_of_cell? w _ HX2.out)).trans HX2.out), ((HB.out.cell (World.block_lt_of_cell? w _ HX3.out)).trans HX3.out)⟩ (fun hHeld => ?_); refine with_tabW damsonlaw09_ChannelKeeps.tab18 damsonlaw09_ChannelKeeps.bits18 (fun HT_ HW_ => ?_)
      generalize wa.drew = wd at HB HK HM HD hHeld ⊢
      refine pureA_ 1 81 (bm 15 2) ?_
      refine pureA_ 2 82 (bm 15 6) ?_
      refine pureA_ 3 83 (bm 15 14) ?_
      refine pureA_ 5 85 (bm 15 46) ?_
      refine pureA_ 6 86 (bm 15 110) ?_
      refine pureA_ 7 87 (bm 15 238) ?_
      refine take_ (i := 0) (N := some 80) (v := ?_) (a' := ?_) #[true, true, true, true, false, true, true, true, false, false, false, false, false, false, false] rfl rfl (take_ofW HT_.out HW_.out (by kernel_rfl)) (fun _ _ _ h => h) (Or.inl ⟨by rfl, ?_⟩) hHeld ?_ ?_
      rotate_left
      · rintro w' ⟨s0, s1, s2, s3, s4, s5, s6, s7, s8⟩
        go_simp
        with_reducible rfl
      rotate_left
      · simp only [Act.put, List.setIfInBounds_toArray, List.set_cons_zero, List.set_cons_succ, i64_w, i32_w]
        rfl
      refine take_ (i := 4) (N := some 84) (v := ?_) (a' := ?_) #[true, true, true, true, true, true, true, true, false, false, false, false, false, false, false] rfl rfl (take_ofW HT_.out HW_.out (by kernel_rfl)) (fun _ _ _ h => h) (Or.inl ⟨by rfl, ?_⟩) hHeld ?_ ?_
      rotate_left
      · rintro w' ⟨s0, s1, s2, s3, s4, s5, s6, s7, s8⟩
        go_simp
        with_reducible rfl
      rotate_left
      · simp only [Act.put, List.setIfInBounds_toArray, List.set_cons_zero, List.set_cons_succ, i64_w, i32_w]
        rfl
      refine take_ (i := 8) (N := some 88) (v := ?_) (a' := ?_) #[true, true, true, true, true, true, true, true, true, false, false, false, false, false, false] rfl rfl (take_ofW HT_.out HW_.out (by kernel_rfl)) (fun _ _ _ h => h) (Or.inl ⟨by rfl, ?_⟩) hHeld ?_ ?_
      rotate_left
      · rintro w' ⟨s0, s1, s2, s3, s4, s5, s6, s7, s8⟩
        go_simp
        with_reducible rfl
      rotate_left
      · simp only [Act.put, List.setIfInBounds_toArray, List.set_cons_zero, List.set_cons_succ, i64_w, i32_w]
        rfl
      refine one_ (i := 9) (N := some 89) #[true, true, true, true, true, true, true, true, true, true, false, false, false, false, false] rfl rfl (one_of HT_.out (by kernel_rfl)) (by decide) (fun K hK => ?_)
      refine goes_ Try.func23 (by kernel_rfl) rfl #[.agg #[.int .u64 cq.f0, .int .u64 cq.f1, .int .u64 cq.f2, .int .u64 cq.f3, .int .u64 cq.f4, .slice Ac cq.f5.length cc, .bool cq.f6], .int .u64 id, .int .u64 am] (by rfl) rfl rfl (by (try simp only [List.map_toArray, List.map_cons, List.map_nil]); first | done | rfl | (simp only [List.length_drop, List.length_take]; rfl)) ?_
      refine (channel_Hold.calls k cq.f0 cq.f1 cq.f2 cq.f3 cq.f4 Ac cc cq.f5 cq.f6 id am d.f0 d.f1 d.f2 d.f3 d.f4 d.f5 d.f6 e _ HM.out HL.out HFh.out).mono ?_
      rintro e w6 ⟨v, rfl, ho, hb⟩
      refine ⟨_, rfl, ?_⟩
      obtain ⟨Ad, cd, ev⟩ := Kd.R_slice ho
      subst ev
      have HMd := Aside0.mk (Kd.R_reads' ho).2.2
      have HLd := Aside0.mk (Kd.R_reads' ho).2.1
      have HAd : Aside0 (Away w.heap.size Ad) := ⟨R44_away ho (blk_lt HK.out)⟩
      have HAg : Aside0 (Away gy Ad) := ⟨R44_away ho (blk_lt HD.out)⟩
      replace HB := Aside0.mk (below_then HB.out HB.out.size hb)
      replace HK := Aside0.mk (blk_below HK.out hb)
      replace HD := Aside0.mk (blk_below HD.out hb)
      replace HM := Aside0.mk (Kd.C_below HM.out hb)
      clear ho hb
      refine hK.out _ _ ⟨(blk_cell HK.out 0).trans rfl, (blk_cell HK.out 1).trans rfl, (blk_cell HK.out 2).trans rfl, (blk_cell HK.out 3).trans rfl, (blk_cell HK.out 4).trans rfl, (blk_cell HK.out 5).trans rfl, (blk_cell HK.out 6).trans rfl, ((HB.out.cell (World.block_lt_of_cell? w _ HX2.out)).trans HX2.out), ((HB.out.cell (World.block_lt_of_cell? w _ HX3.out)).trans HX3.out)⟩ (fun hHeld => ?_)
      clear hK K
      refine norm_ (a' := ?_) ?_ ?_
      rotate_left
      · show Act.put _ (some 89) _ = _
        simp only [Act.put, List.setIfInBounds_toArray, List.set_cons_zero, List.set_cons_succ, i64_w, i32_w]
        rfl
      refine pureA_ 10 79 (bm 15 2047) ?_
      refine pureA_ 11 90 (bm 15 4095) ?_
      refine pureA_ 12 91 (bm 15 8191) ?_
      refine one_ (i := 13) (N := none) #[true, true, true, true, true, true, true, true, true, true, true, true, true, true, false] rfl rfl (one_of HT_.out (by kernel_rfl)) (by decide) (fun K hK => ?_)
      obtain ⟨hs0, hs1, hs2, hs3, hs4, hs5, hs6, hs7, hs8, hs9, hs10, hs11, hs12, hs13⟩ := cz7_ HD.out
      refine skip_ (w1 := put7 w6 gy d (.slice Ad d.f5.length cd)) (by rfl) rfl ?_ ?_
      · go_simp
        rfl
      clear hs0 hs1 hs2 hs3 hs4 hs5 hs6 hs7 hs8 hs9 hs10 hs11 hs12 hs13
      replace HB := Aside0.mk (put7_below (c := d) (v := .slice Ad d.f5.length cd) HB.out HGE.out)
      replace HK := Aside0.mk (put7_far (c := d) (v := .slice Ad d.f5.length cd) HK.out HNE.out)
      replace HD := Aside0.mk (put7_self (c := d) (v := .slice Ad d.f5.length cd) HD.out)
      replace HMd := Aside0.mk (put7_C (c := d) (v := .slice Ad d.f5.length cd) HMd.out HAg.out)
      replace HM := Aside0.mk (put7_C' (c := d) (v := .slice Ad d.f5.length cd) HM.out HAc.out)
      generalize put7 w6 gy d (.slice Ad d.f5.length cd) = w7 at HB HK HD HMd HM ⊢
      refine hK.out _ _ ⟨(blk_cell HK.out 0).trans rfl, (blk_cell HK.out 1).trans rfl, (blk_cell HK.out 2).trans rfl, (blk_cell HK.out 3).trans rfl, (blk_cell HK.out 4).trans rfl, (blk_cell HK.out 5).trans rfl, (blk_cell HK.out 6).trans rfl, ((HB.out.cell (World.block_lt_of_cell? w _ HX2.out)).trans HX2.out), ((HB.out.cell (World.block_lt_of_cell? w _ HX3.out)).trans HX3.out)⟩ (fun hHeld => ?_)
      clear hK K
      refine pureA_ 14 14 (bm 15 32767) ?_
      refine done_ (done_of HT_.out (by kernel_rfl)) ?_
      obtain ⟨hs0, hs1, hs2, hs3, hs4, hs5, hs6, hs7, hs8, hs9, hs10, hs11, hs12, hs13⟩ := cz7_ HD.out
      by_cases he : e = 0
      · have h1 : decide (d.f1 < d.f3) = false := decide_eq_false (by have := HLT.out he; omega)
        subst he
        go_wp2
        go_meet
        case rel => exact ⟨Ad, cd, rfl, HLd, HMd, HAd, HM, HB, HK, HD⟩
      · have he1 : (e == 0) = false := beq_eq_false_iff_ne.mpr he
        clear he
        go_wp2
        go_meet
        case rel => exact ⟨Ad, cd, rfl, HLd, HMd, HAd, HM, HB, HK, HD⟩
    · have hF := HF.out
      rw [hm] at hF
      have HFh := Aside0.mk (damsonlaw09_ChannelKeeps.one_hold hF (by decide))
      clear hF HF
      have hlt := fun he => HQ.out he (by omega)
      have HLT := Aside0.mk hlt
      clear hlt HQ
      go_wp2
      replace HB := Aside0.mk (below_drew1 HB.out)
      replace HK := Aside0.mk (blk_drew HK.out)
      replace HD := Aside0.mk (blk_drew HD.out)
      replace HM := Aside0.mk (Kd.C_drew HM.out)
      refine start_ (n := 15) (S := fun w' => w'.cell? ⟨w.heap.size, 0, none⟩ = some (.int .u64 cq.f0) ∧ w'.cell? ⟨w.heap.size, 1, none⟩ = some (.int .u64 cq.f1) ∧ w'.cell? ⟨w.heap.size, 2, none⟩ = some (.int .u64 cq.f2) ∧ w'.cell? ⟨w.heap.size, 3, none⟩ = some (.int .u64 cq.f3) ∧ w'.cell? ⟨w.heap.size, 4, none⟩ = some (.int .u64 cq.f4) ∧ w'.cell? ⟨w.heap.size, 5, none⟩ = some (.slice Ac cq.f5.length cc) ∧ w'.cell? ⟨w.heap.size, 6, none⟩ = some (.bool cq.f6) ∧ w'.cell? (ad2.add i) = some (.int .u64 id) ∧ w'.cell? (ad3.add i) = some (.int .u64 am)) (ds := []) #[false, false, false, false, false, false, false, false, false, false, false, false, false, false, false] (by kernel_rfl) rfl rfl ⟨(blk_cell HK.out 0).trans rfl, (blk_cell HK.out 1).trans rfl, (blk_cell HK.out 2).trans rfl, (blk_cell HK.out 3).trans rfl, (blk_cell HK.out 4).trans rfl, (blk_cell HK.out 5).trans rfl, (blk_cell HK.out 6).trans rfl, ((HB.out.cell (World.block_lt_of_cell? w _ HX2.out)).trans HX2.out), ((HB.out.cell (World.block_lt_of_cell? w _ HX3.out)).trans HX3.out)⟩ (fun hHeld => ?_); refine with_tabW damsonlaw09_ChannelKeeps.tab18 damsonlaw09_ChannelKeeps.bits18 (fun HT_ HW_ => ?_)
      generalize wa.drew = wd at HB HK HM HD hHeld ⊢
      refine pureA_ 1 81 (bm 15 2) ?_
      refine pureA_ 2 82 (bm 15 6) ?_
      refine pureA_ 3 83 (bm 15 14) ?_
      refine pureA_ 5 85 (bm 15 46) ?_
      refine pureA_ 6 86 (bm 15 110) ?_
      refine pureA_ 7 87 (bm 15 238) ?_
      refine take_ (i := 0) (N := some 80) (v := ?_) (a' := ?_) #[true, true, true, true, false, true, true, true, false, false, false, false, false, false, false] rfl rfl (take_ofW HT_.out HW_.out (by kernel_rfl)) (fun _ _ _ h => h) (Or.inl ⟨by rfl, ?_⟩) hHeld ?_ ?_
      rotate_left
      · rintro w' ⟨s0, s1, s2, s3, s4, s5, s6, s7, s8⟩
        go_simp
        with_reducible rfl
      rotate_left
      · simp only [Act.put, List.setIfInBounds_toArray, List.set_cons_zero, List.set_cons_succ, i64_w, i32_w]
        rfl
      refine take_ (i := 4) (N := some 84) (v := ?_) (a' := ?_) #[true, true, true, true, true, true, true, true, false, false, false, false, false, false, false] rfl rfl (take_ofW HT_.out HW_.out (by kernel_rfl)) (fun _ _ _ h => h) (Or.inl ⟨by rfl, ?_⟩) hHeld ?_ ?_
      rotate_left
      · rintro w' ⟨s0, s1, s2, s3, s4, s5, s6, s7, s8⟩
        go_simp
        with_reducible rfl
      rotate_left
      · simp only [Act.put, List.setIfInBounds_toArray, List.set_cons_zero, List.set_cons_succ, i64_w, i32_w]
        rfl
      refine take_ (i := 8) (N := some 88) (v := ?_) (a' := ?_) #[true, true, true, true, true, true, true, true, true, false, false, false, false, false, false] rfl rfl (take_ofW HT_.out HW_.out (by kernel_rfl)) (fun _ _ _ h => h) (Or.inl ⟨by rfl, ?_⟩) hHeld ?_ ?_
      rotate_left
      · rintro w' ⟨s0, s1, s2, s3, s4, s5, s6, s7, s8⟩
        go_simp
        with_reducible rfl
      rotate_left
      · simp only [Act.put, List.setIfInBounds_toArray, List.set_cons_zero, List.set_cons_succ, i64_w, i32_w]
        rfl
      refine one_ (i := 9) (N := some 89) #[true, true, true, true, true, true, true, true, true, true, false, false, false, false, false] rfl rfl (one_of HT_.out (by kernel_rfl)) (by decide) (fun K hK => ?_)
      refine goes_ Try.func23 (by kernel_rfl) rfl #[.agg #[.int .u64 cq.f0, .int .u64 cq.f1, .int .u64 cq.f2, .int .u64 cq.f3, .int .u64 cq.f4, .slice Ac cq.f5.length cc, .bool cq.f6], .int .u64 id, .int .u64 am] (by rfl) rfl rfl (by (try simp only [List.map_toArray, List.map_cons, List.map_nil]); first | done | rfl | (simp only [List.length_drop, List.length_take]; rfl)) ?_
      refine (channel_Hold.calls k cq.f0 cq.f1 cq.f2 cq.f3 cq.f4 Ac cc cq.f5 cq.f6 id am d.f0 d.f1 d.f2 d.f3 d.f4 d.f5 d.f6 e _ HM.out HL.out HFh.out).mono ?_
      rintro e w6 ⟨v, rfl, ho, hb⟩
      refine ⟨_, rfl, ?_⟩
      obtain ⟨Ad, cd, ev⟩ := Kd.R_slice ho
      subst ev
      have HMd := Aside0.mk (Kd.R_reads' ho).2.2
      have HLd := Aside0.mk (Kd.R_reads' ho).2.1
      have HAd : Aside0 (Away w.heap.size Ad) := ⟨R44_away ho (blk_lt HK.out)⟩
      have HAg : Aside0 (Away gy Ad) := ⟨R44_away ho (blk_lt HD.out)⟩
      replace HB := Aside0.mk (below_then HB.out HB.out.size hb)
      replace HK := Aside0.mk (blk_below HK.out hb)
      replace HD := Aside0.mk (blk_below HD.out hb)
      replace HM := Aside0.mk (Kd.C_below HM.out hb)
      clear ho hb
      refine hK.out _ _ ⟨(blk_cell HK.out 0).trans rfl, (blk_cell HK.out 1).trans rfl, (blk_cell HK.out 2).trans rfl, (blk_cell HK.out 3).trans rfl, (blk_cell HK.out 4).trans rfl, (blk_cell HK.out 5).trans rfl, (blk_cell HK.out 6).trans rfl, ((HB.out.cell (World.block_lt_of_cell? w _ HX2.out)).trans HX2.out), ((HB.out.cell (World.block_lt_of_cell? w _ HX3.out)).trans HX3.out)⟩ (fun hHeld => ?_)
      clear hK K
      refine norm_ (a' := ?_) ?_ ?_
      rotate_left
      · show Act.put _ (some 89) _ = _
        simp only [Act.put, List.setIfInBounds_toArray, List.set_cons_zero, List.set_cons_succ, i64_w, i32_w]
        rfl
      refine pureA_ 10 79 (bm 15 2047) ?_
      refine pureA_ 11 90 (bm 15 4095) ?_
      refine pureA_ 12 91 (bm 15 8191) ?_
      refine one_ (i := 13) (N := none) #[true, true, true, true, true, true, true, true, true, true, true, true, true, true, false] rfl rfl (one_of HT_.out (by kernel_rfl)) (by decide) (fun K hK => ?_)
      obtain ⟨hs0, hs1, hs2, hs3, hs4, hs5, hs6, hs7, hs8, hs9, hs10, hs11, hs12, hs13⟩ := cz7_ HD.out
      refine skip_ (w1 := put7 w6 gy d (.slice Ad d.f5.length cd)) (by rfl) rfl ?_ ?_
      · go_simp
        rfl
      clear hs0 hs1 hs2 hs3 hs4 hs5 hs6 hs7 hs8 hs9 hs10 hs11 hs12 hs13
      replace HB := Aside0.mk (put7_below (c := d) (v := .slice Ad d.f5.length cd) HB.out HGE.out)
      replace HK := Aside0.mk (put7_far (c := d) (v := .slice Ad d.f5.length cd) HK.out HNE.out)
      replace HD := Aside0.mk (put7_self (c := d) (v := .slice Ad d.f5.length cd) HD.out)
      replace HMd := Aside0.mk (put7_C (c := d) (v := .slice Ad d.f5.length cd) HMd.out HAg.out)
      replace HM := Aside0.mk (put7_C' (c := d) (v := .slice Ad d.f5.length cd) HM.out HAc.out)
      generalize put7 w6 gy d (.slice Ad d.f5.length cd) = w7 at HB HK HD HMd HM ⊢
      refine hK.out _ _ ⟨(blk_cell HK.out 0).trans rfl, (blk_cell HK.out 1).trans rfl, (blk_cell HK.out 2).trans rfl, (blk_cell HK.out 3).trans rfl, (blk_cell HK.out 4).trans rfl, (blk_cell HK.out 5).trans rfl, (blk_cell HK.out 6).trans rfl, ((HB.out.cell (World.block_lt_of_cell? w _ HX2.out)).trans HX2.out), ((HB.out.cell (World.block_lt_of_cell? w _ HX3.out)).trans HX3.out)⟩ (fun hHeld => ?_)
      clear hK K
      refine pureA_ 14 14 (bm 15 32767) ?_
      refine done_ (done_of HT_.out (by kernel_rfl)) ?_
      obtain ⟨hs0, hs1, hs2, hs3, hs4, hs5, hs6, hs7, hs8, hs9, hs10, hs11, hs12, hs13⟩ := cz7_ HD.out
      by_cases he : e = 0
      · have h1 : decide (d.f1 < d.f3) = false := decide_eq_false (by have := HLT.out he; omega)
        subst he
        go_wp2
        go_meet
        case rel => exact ⟨Ad, cd, rfl, HLd, HMd, HAd, HM, HB, HK, HD⟩
      · have he1 : (e == 0) = false := beq_eq_false_iff_ne.mpr he
        clear he
        go_wp2
        go_meet
        case rel => exact ⟨Ad, cd, rfl, HLd, HMd, HAd, HM, HB, HK, HD⟩
    · have hF := HF.out
      rw [hm] at hF
      obtain ⟨q, hF⟩ := damsonlaw09_ChannelKeeps.one_settle hF
      have HFh := Aside0.mk hF
      clear hF HF
      go_wp2
      replace HB := Aside0.mk (below_drew1 HB.out)
      replace HK := Aside0.mk (blk_drew HK.out)
      replace HD := Aside0.mk (blk_drew HD.out)
      replace HM := Aside0.mk (Kd.C_drew HM.out)
      refine start_ (n := 12) (S := fun w' => w'.cell? ⟨w.heap.size, 0, none⟩ = some (.int .u64 cq.f0) ∧ w'.cell? ⟨w.heap.size, 1, none⟩ = some (.int .u64 cq.f1) ∧ w'.cell? ⟨w.heap.size, 2, none⟩ = some (.int .u64 cq.f2) ∧ w'.cell? ⟨w.heap.size, 3, none⟩ = some (.int .u64 cq.f3) ∧ w'.cell? ⟨w.heap.size, 4, none⟩ = some (.int .u64 cq.f4) ∧ w'.cell? ⟨w.heap.size, 5, none⟩ = some (.slice Ac cq.f5.length cc) ∧ w'.cell? ⟨w.heap.size, 6, none⟩ = some (.bool cq.f6) ∧ w'.cell? (ad2.add i) = some (.int .u64 id)) (ds := []) #[false, false, false, false, false, false, false, false, false, false, false, false] (by kernel_rfl) rfl rfl ⟨(blk_cell HK.out 0).trans rfl, (blk_cell HK.out 1).trans rfl, (blk_cell HK.out 2).trans rfl, (blk_cell HK.out 3).trans rfl, (blk_cell HK.out 4).trans rfl, (blk_cell HK.out 5).trans rfl, (blk_cell HK.out 6).trans rfl, ((HB.out.cell (World.block_lt_of_cell? w _ HX2.out)).trans HX2.out)⟩ (fun hHeld => ?_); refine with_tabW damsonlaw09_ChannelKeeps.tab22 damsonlaw09_ChannelKeeps.bits22 (fun HT_ HW_ => ?_)
      generalize wa.drew = wd at HB HK HM HD hHeld ⊢
      refine pureA_ 1 105 (bm 12 2) ?_
      refine pureA_ 2 106 (bm 12 6) ?_
      refine pureA_ 3 107 (bm 12 14) ?_
      refine take_ (i := 0) (N := some 104) (v := ?_) (a' := ?_) #[true, true, true, true, false, false, false, false, false, false, false, false] rfl rfl (take_ofW HT_.out HW_.out (by kernel_rfl)) (fun _ _ _ h => h) (Or.inl ⟨by rfl, ?_⟩) hHeld ?_ ?_
      rotate_left
      · rintro w' ⟨s0, s1, s2, s3, s4, s5, s6, s7⟩
        go_simp
        with_reducible rfl
      rotate_left
      · simp only [Act.put, List.setIfInBounds_toArray, List.set_cons_zero, List.set_cons_succ, i64_w, i32_w]
        rfl
      refine take_ (i := 4) (N := some 108) (v := ?_) (a' := ?_) #[true, true, true, true, true, false, false, false, false, false, false, false] rfl rfl (take_ofW HT_.out HW_.out (by kernel_rfl)) (fun _ _ _ h => h) (Or.inl ⟨by rfl, ?_⟩) hHeld ?_ ?_
      rotate_left
      · rintro w' ⟨s0, s1, s2, s3, s4, s5, s6, s7⟩
        go_simp
        with_reducible rfl
      rotate_left
      · simp only [Act.put, List.setIfInBounds_toArray, List.set_cons_zero, List.set_cons_succ, i64_w, i32_w]
        rfl
      refine one_ (i := 5) (N := some 109) #[true, true, true, true, true, true, false, false, false, false, false, false] rfl rfl (one_of HT_.out (by kernel_rfl)) (by decide) (fun K hK => ?_)
      refine goes_ Try.func25 (by kernel_rfl) rfl #[.agg #[.int .u64 cq.f0, .int .u64 cq.f1, .int .u64 cq.f2, .int .u64 cq.f3, .int .u64 cq.f4, .slice Ac cq.f5.length cc, .bool cq.f6], .int .u64 id] (by rfl) rfl rfl (by (try simp only [List.map_toArray, List.map_cons, List.map_nil]); first | done | rfl | (simp only [List.length_drop, List.length_take]; rfl)) ?_
      refine (channel_Settle.calls k cq.f0 cq.f1 cq.f2 cq.f3 cq.f4 Ac cc cq.f5 cq.f6 id d.f0 d.f1 d.f2 d.f3 d.f4 d.f5 d.f6 q e _ HM.out HL.out HFh.out).mono ?_
      rintro e w6 ⟨v, rfl, ho, hb⟩
      refine ⟨_, rfl, ?_⟩
      obtain ⟨Ad, cd, ev⟩ := Kd.R_slice ho
      subst ev
      have HMd := Aside0.mk (Kd.R_reads' ho).2.2
      have HLd := Aside0.mk (Kd.R_reads' ho).2.1
      have HAd : Aside0 (Away w.heap.size Ad) := ⟨R44_away ho (blk_lt HK.out)⟩
      have HAg : Aside0 (Away gy Ad) := ⟨R44_away ho (blk_lt HD.out)⟩
      replace HB := Aside0.mk (below_then HB.out HB.out.size hb)
      replace HK := Aside0.mk (blk_below HK.out hb)
      replace HD := Aside0.mk (blk_below HD.out hb)
      replace HM := Aside0.mk (Kd.C_below HM.out hb)
      clear ho hb
      refine hK.out _ _ ⟨(blk_cell HK.out 0).trans rfl, (blk_cell HK.out 1).trans rfl, (blk_cell HK.out 2).trans rfl, (blk_cell HK.out 3).trans rfl, (blk_cell HK.out 4).trans rfl, (blk_cell HK.out 5).trans rfl, (blk_cell HK.out 6).trans rfl, ((HB.out.cell (World.block_lt_of_cell? w _ HX2.out)).trans HX2.out)⟩ (fun hHeld => ?_)
      clear hK K
      refine norm_ (a' := ?_) ?_ ?_
      rotate_left
      · show Act.put _ (some 109) _ = _
        simp only [Act.put, List.setIfInBounds_toArray, List.set_cons_zero, List.set_cons_succ, i64_w, i32_w]
        rfl
      refine pureA_ 6 103 (bm 12 127) ?_
      refine pureA_ 7 110 (bm 12 255) ?_
      refine pureA_ 8 111 (bm 12 511) ?_
      refine pureA_ 9 112 (bm 12 1023) ?_
      refine one_ (i := 10) (N := none) #[true, true, true, true, true, true, true, true, true, true, true, false] rfl rfl (one_of HT_.out (by kernel_rfl)) (by decide) (fun K hK => ?_)
      obtain ⟨hs0, hs1, hs2, hs3, hs4, hs5, hs6, hs7, hs8, hs9, hs10, hs11, hs12, hs13⟩ := cz7_ HD.out
      refine skip_ (w1 := put7 w6 gy d (.slice Ad d.f5.length cd)) (by rfl) rfl ?_ ?_
      · go_simp
        rfl
      clear hs0 hs1 hs2 hs3 hs4 hs5 hs6 hs7 hs8 hs9 hs10 hs11 hs12 hs13
      replace HB := Aside0.mk (put7_below (c := d) (v := .slice Ad d.f5.length cd) HB.out HGE.out)
      replace HK := Aside0.mk (put7_far (c := d) (v := .slice Ad d.f5.length cd) HK.out HNE.out)
      replace HD := Aside0.mk (put7_self (c := d) (v := .slice Ad d.f5.length cd) HD.out)
      replace HMd := Aside0.mk (put7_C (c := d) (v := .slice Ad d.f5.length cd) HMd.out HAg.out)
      replace HM := Aside0.mk (put7_C' (c := d) (v := .slice Ad d.f5.length cd) HM.out HAc.out)
      generalize put7 w6 gy d (.slice Ad d.f5.length cd) = w7 at HB HK HD HMd HM ⊢
      refine hK.out _ _ ⟨(blk_cell HK.out 0).trans rfl, (blk_cell HK.out 1).trans rfl, (blk_cell HK.out 2).trans rfl, (blk_cell HK.out 3).trans rfl, (blk_cell HK.out 4).trans rfl, (blk_cell HK.out 5).trans rfl, (blk_cell HK.out 6).trans rfl, ((HB.out.cell (World.block_lt_of_cell? w _ HX2.out)).trans HX2.out)⟩ (fun hHeld => ?_)
      clear hK K
      refine pureA_ 11 14 (bm 12 4095) ?_
      refine done_ (done_of HT_.out (by kernel_rfl)) ?_
      try go_wp2
      go_meet
      case rel => exact ⟨Ad, cd, rfl, HLd, HMd, HAd, HM, HB, HK, HD⟩
    · have hF := HF.out
      rw [hm] at hF
      obtain ⟨q, hF⟩ := damsonlaw09_ChannelKeeps.one_fail hF
      have HFh := Aside0.mk hF
      clear hF HF
      go_wp2
      replace HB := Aside0.mk (below_drew1 HB.out)
      replace HK := Aside0.mk (blk_drew HK.out)
      replace HD := Aside0.mk (blk_drew HD.out)
      replace HM := Aside0.mk (Kd.C_drew HM.out)
      refine start_ (n := 12) (S := fun w' => w'.cell? ⟨w.heap.size, 0, none⟩ = some (.int .u64 cq.f0) ∧ w'.cell? ⟨w.heap.size, 1, none⟩ = some (.int .u64 cq.f1) ∧ w'.cell? ⟨w.heap.size, 2, none⟩ = some (.int .u64 cq.f2) ∧ w'.cell? ⟨w.heap.size, 3, none⟩ = some (.int .u64 cq.f3) ∧ w'.cell? ⟨w.heap.size, 4, none⟩ = some (.int .u64 cq.f4) ∧ w'.cell? ⟨w.heap.size, 5, none⟩ = some (.slice Ac cq.f5.length cc) ∧ w'.cell? ⟨w.heap.size, 6, none⟩ = some (.bool cq.f6) ∧ w'.cell? (ad2.add i) = some (.int .u64 id)) (ds := []) #[false, false, false, false, false, false, false, false, false, false, false, false] (by kernel_rfl) rfl rfl ⟨(blk_cell HK.out 0).trans rfl, (blk_cell HK.out 1).trans rfl, (blk_cell HK.out 2).trans rfl, (blk_cell HK.out 3).trans rfl, (blk_cell HK.out 4).trans rfl, (blk_cell HK.out 5).trans rfl, (blk_cell HK.out 6).trans rfl, ((HB.out.cell (World.block_lt_of_cell? w _ HX2.out)).trans HX2.out)⟩ (fun hHeld => ?_); refine with_tabW damsonlaw09_ChannelKeeps.tab24 damsonlaw09_ChannelKeeps.bits24 (fun HT_ HW_ => ?_)
      generalize wa.drew = wd at HB HK HM HD hHeld ⊢
      refine pureA_ 1 117 (bm 12 2) ?_
      refine pureA_ 2 118 (bm 12 6) ?_
      refine pureA_ 3 119 (bm 12 14) ?_
      refine take_ (i := 0) (N := some 116) (v := ?_) (a' := ?_) #[true, true, true, true, false, false, false, false, false, false, false, false] rfl rfl (take_ofW HT_.out HW_.out (by kernel_rfl)) (fun _ _ _ h => h) (Or.inl ⟨by rfl, ?_⟩) hHeld ?_ ?_
      rotate_left
      · rintro w' ⟨s0, s1, s2, s3, s4, s5, s6, s7⟩
        go_simp
        with_reducible rfl
      rotate_left
      · simp only [Act.put, List.setIfInBounds_toArray, List.set_cons_zero, List.set_cons_succ, i64_w, i32_w]
        rfl
      refine take_ (i := 4) (N := some 120) (v := ?_) (a' := ?_) #[true, true, true, true, true, false, false, false, false, false, false, false] rfl rfl (take_ofW HT_.out HW_.out (by kernel_rfl)) (fun _ _ _ h => h) (Or.inl ⟨by rfl, ?_⟩) hHeld ?_ ?_
      rotate_left
      · rintro w' ⟨s0, s1, s2, s3, s4, s5, s6, s7⟩
        go_simp
        with_reducible rfl
      rotate_left
      · simp only [Act.put, List.setIfInBounds_toArray, List.set_cons_zero, List.set_cons_succ, i64_w, i32_w]
        rfl
      refine one_ (i := 5) (N := some 121) #[true, true, true, true, true, true, false, false, false, false, false, false] rfl rfl (one_of HT_.out (by kernel_rfl)) (by decide) (fun K hK => ?_)
      refine goes_ Try.func24 (by kernel_rfl) rfl #[.agg #[.int .u64 cq.f0, .int .u64 cq.f1, .int .u64 cq.f2, .int .u64 cq.f3, .int .u64 cq.f4, .slice Ac cq.f5.length cc, .bool cq.f6], .int .u64 id] (by rfl) rfl rfl (by (try simp only [List.map_toArray, List.map_cons, List.map_nil]); first | done | rfl | (simp only [List.length_drop, List.length_take]; rfl)) ?_
      refine (channel_Fail.calls k cq.f0 cq.f1 cq.f2 cq.f3 cq.f4 Ac cc cq.f5 cq.f6 id d.f0 d.f1 d.f2 d.f3 d.f4 d.f5 d.f6 q e _ HM.out HL.out HFh.out).mono ?_
      rintro e w6 ⟨v, rfl, ho, hb⟩
      refine ⟨_, rfl, ?_⟩
      obtain ⟨Ad, cd, ev⟩ := Kd.R_slice ho
      subst ev
      have HMd := Aside0.mk (Kd.R_reads' ho).2.2
      have HLd := Aside0.mk (Kd.R_reads' ho).2.1
      have HAd : Aside0 (Away w.heap.size Ad) := ⟨R44_away ho (blk_lt HK.out)⟩
      have HAg : Aside0 (Away gy Ad) := ⟨R44_away ho (blk_lt HD.out)⟩
      replace HB := Aside0.mk (below_then HB.out HB.out.size hb)
      replace HK := Aside0.mk (blk_below HK.out hb)
      replace HD := Aside0.mk (blk_below HD.out hb)
      replace HM := Aside0.mk (Kd.C_below HM.out hb)
      clear ho hb
      refine hK.out _ _ ⟨(blk_cell HK.out 0).trans rfl, (blk_cell HK.out 1).trans rfl, (blk_cell HK.out 2).trans rfl, (blk_cell HK.out 3).trans rfl, (blk_cell HK.out 4).trans rfl, (blk_cell HK.out 5).trans rfl, (blk_cell HK.out 6).trans rfl, ((HB.out.cell (World.block_lt_of_cell? w _ HX2.out)).trans HX2.out)⟩ (fun hHeld => ?_)
      clear hK K
      refine norm_ (a' := ?_) ?_ ?_
      rotate_left
      · show Act.put _ (some 121) _ = _
        simp only [Act.put, List.setIfInBounds_toArray, List.set_cons_zero, List.set_cons_succ, i64_w, i32_w]
        rfl
      refine pureA_ 6 115 (bm 12 127) ?_
      refine pureA_ 7 122 (bm 12 255) ?_
      refine pureA_ 8 123 (bm 12 511) ?_
      refine pureA_ 9 124 (bm 12 1023) ?_
      refine one_ (i := 10) (N := none) #[true, true, true, true, true, true, true, true, true, true, true, false] rfl rfl (one_of HT_.out (by kernel_rfl)) (by decide) (fun K hK => ?_)
      obtain ⟨hs0, hs1, hs2, hs3, hs4, hs5, hs6, hs7, hs8, hs9, hs10, hs11, hs12, hs13⟩ := cz7_ HD.out
      refine skip_ (w1 := put7 w6 gy d (.slice Ad d.f5.length cd)) (by rfl) rfl ?_ ?_
      · go_simp
        rfl
      clear hs0 hs1 hs2 hs3 hs4 hs5 hs6 hs7 hs8 hs9 hs10 hs11 hs12 hs13
      replace HB := Aside0.mk (put7_below (c := d) (v := .slice Ad d.f5.length cd) HB.out HGE.out)
      replace HK := Aside0.mk (put7_far (c := d) (v := .slice Ad d.f5.length cd) HK.out HNE.out)
      replace HD := Aside0.mk (put7_self (c := d) (v := .slice Ad d.f5.length cd) HD.out)
      replace HMd := Aside0.mk (put7_C (c := d) (v := .slice Ad d.f5.length cd) HMd.out HAg.out)
      replace HM := Aside0.mk (put7_C' (c := d) (v := .slice Ad d.f5.length cd) HM.out HAc.out)
      generalize put7 w6 gy d (.slice Ad d.f5.length cd) = w7 at HB HK HD HMd HM ⊢
      refine hK.out _ _ ⟨(blk_cell HK.out 0).trans rfl, (blk_cell HK.out 1).trans rfl, (blk_cell HK.out 2).trans rfl, (blk_cell HK.out 3).trans rfl, (blk_cell HK.out 4).trans rfl, (blk_cell HK.out 5).trans rfl, (blk_cell HK.out 6).trans rfl, ((HB.out.cell (World.block_lt_of_cell? w _ HX2.out)).trans HX2.out)⟩ (fun hHeld => ?_)
      clear hK K
      refine pureA_ 11 14 (bm 12 4095) ?_
      refine done_ (done_of HT_.out (by kernel_rfl)) ?_
      try go_wp2
      go_meet
      case rel => exact ⟨Ad, cd, rfl, HLd, HMd, HAd, HM, HB, HK, HD⟩
    · have hF := HF.out
      rw [hm] at hF
      have HFh := Aside0.mk (damsonlaw09_ChannelKeeps.one_push hF)
      clear hF HF
      go_wp2
      replace HB := Aside0.mk (below_drew1 HB.out)
      replace HK := Aside0.mk (blk_drew HK.out)
      replace HD := Aside0.mk (blk_drew HD.out)
      replace HM := Aside0.mk (Kd.C_drew HM.out)
      refine start_ (n := 11) (S := fun w' => w'.cell? ⟨w.heap.size, 0, none⟩ = some (.int .u64 cq.f0) ∧ w'.cell? ⟨w.heap.size, 1, none⟩ = some (.int .u64 cq.f1) ∧ w'.cell? ⟨w.heap.size, 2, none⟩ = some (.int .u64 cq.f2) ∧ w'.cell? ⟨w.heap.size, 3, none⟩ = some (.int .u64 cq.f3) ∧ w'.cell? ⟨w.heap.size, 4, none⟩ = some (.int .u64 cq.f4) ∧ w'.cell? ⟨w.heap.size, 5, none⟩ = some (.slice Ac cq.f5.length cc) ∧ w'.cell? ⟨w.heap.size, 6, none⟩ = some (.bool cq.f6) ∧ w'.cell? (ad3.add i) = some (.int .u64 am)) (ds := []) #[false, false, false, false, false, false, false, false, false, false, false] (by kernel_rfl) rfl rfl ⟨(blk_cell HK.out 0).trans rfl, (blk_cell HK.out 1).trans rfl, (blk_cell HK.out 2).trans rfl, (blk_cell HK.out 3).trans rfl, (blk_cell HK.out 4).trans rfl, (blk_cell HK.out 5).trans rfl, (blk_cell HK.out 6).trans rfl, ((HB.out.cell (World.block_lt_of_cell? w _ HX3.out)).trans HX3.out)⟩ (fun hHeld => ?_); refine with_tabW damsonlaw09_ChannelKeeps.tab15 damsonlaw09_ChannelKeeps.bits15 (fun HT_ HW_ => ?_)
      generalize wa.drew = wd at HB HK HM HD hHeld ⊢
      refine pureA_ 1 69 (bm 11 2) ?_
      refine pureA_ 2 70 (bm 11 6) ?_
      refine pureA_ 3 71 (bm 11 14) ?_
      refine take_ (i := 0) (N := some 68) (v := ?_) (a' := ?_) #[true, true, true, true, false, false, false, false, false, false, false] rfl rfl (take_ofW HT_.out HW_.out (by kernel_rfl)) (fun _ _ _ h => h) (Or.inl ⟨by rfl, ?_⟩) hHeld ?_ ?_
      rotate_left
      · rintro w' ⟨s0, s1, s2, s3, s4, s5, s6, s7⟩
        go_simp
        with_reducible rfl
      rotate_left
      · simp only [Act.put, List.setIfInBounds_toArray, List.set_cons_zero, List.set_cons_succ, i64_w, i32_w]
        rfl
      refine take_ (i := 4) (N := some 72) (v := ?_) (a' := ?_) #[true, true, true, true, true, false, false, false, false, false, false] rfl rfl (take_ofW HT_.out HW_.out (by kernel_rfl)) (fun _ _ _ h => h) (Or.inl ⟨by rfl, ?_⟩) hHeld ?_ ?_
      rotate_left
      · rintro w' ⟨s0, s1, s2, s3, s4, s5, s6, s7⟩
        go_simp
        with_reducible rfl
      rotate_left
      · simp only [Act.put, List.setIfInBounds_toArray, List.set_cons_zero, List.set_cons_succ, i64_w, i32_w]
        rfl
      refine one_ (i := 5) (N := some 73) #[true, true, true, true, true, true, false, false, false, false, false] rfl rfl (one_of HT_.out (by kernel_rfl)) (by decide) (fun K hK => ?_)
      refine goes_ Try.func36 (by kernel_rfl) rfl #[.agg #[.int .u64 cq.f0, .int .u64 cq.f1, .int .u64 cq.f2, .int .u64 cq.f3, .int .u64 cq.f4, .slice Ac cq.f5.length cc, .bool cq.f6], .int .u64 am] (by rfl) rfl rfl (by (try simp only [List.map_toArray, List.map_cons, List.map_nil]); first | done | rfl | (simp only [List.length_drop, List.length_take]; rfl)) ?_
      refine (channel_Push.calls k cq.f0 cq.f1 cq.f2 cq.f3 cq.f4 Ac cc cq.f5 cq.f6 am d.f0 d.f1 d.f2 d.f3 d.f4 d.f5 d.f6 e _ HM.out HL.out HFh.out).mono ?_
      rintro e w6 ⟨v, rfl, ho, hb⟩
      refine ⟨_, rfl, ?_⟩
      obtain ⟨Ad, cd, ev⟩ := Kd.R_slice ho
      subst ev
      have HMd := Aside0.mk (Kd.R_reads' ho).2.2
      have HLd := Aside0.mk (Kd.R_reads' ho).2.1
      have HAd : Aside0 (Away w.heap.size Ad) := ⟨R44_away ho (blk_lt HK.out)⟩
      have HAg : Aside0 (Away gy Ad) := ⟨R44_away ho (blk_lt HD.out)⟩
      replace HB := Aside0.mk (below_then HB.out HB.out.size hb)
      replace HK := Aside0.mk (blk_below HK.out hb)
      replace HD := Aside0.mk (blk_below HD.out hb)
      replace HM := Aside0.mk (Kd.C_below HM.out hb)
      clear ho hb
      refine hK.out _ _ ⟨(blk_cell HK.out 0).trans rfl, (blk_cell HK.out 1).trans rfl, (blk_cell HK.out 2).trans rfl, (blk_cell HK.out 3).trans rfl, (blk_cell HK.out 4).trans rfl, (blk_cell HK.out 5).trans rfl, (blk_cell HK.out 6).trans rfl, ((HB.out.cell (World.block_lt_of_cell? w _ HX3.out)).trans HX3.out)⟩ (fun hHeld => ?_)
      clear hK K
      refine norm_ (a' := ?_) ?_ ?_
      rotate_left
      · show Act.put _ (some 73) _ = _
        simp only [Act.put, List.setIfInBounds_toArray, List.set_cons_zero, List.set_cons_succ, i64_w, i32_w]
        rfl
      refine pureA_ 6 67 (bm 11 127) ?_
      refine pureA_ 7 74 (bm 11 255) ?_
      refine pureA_ 8 75 (bm 11 511) ?_
      refine one_ (i := 9) (N := none) #[true, true, true, true, true, true, true, true, true, true, false] rfl rfl (one_of HT_.out (by kernel_rfl)) (by decide) (fun K hK => ?_)
      obtain ⟨hs0, hs1, hs2, hs3, hs4, hs5, hs6, hs7, hs8, hs9, hs10, hs11, hs12, hs13⟩ := cz7_ HD.out
      refine skip_ (w1 := put7 w6 gy d (.slice Ad d.f5.length cd)) (by rfl) rfl ?_ ?_
      · go_simp
        rfl
      clear hs0 hs1 hs2 hs3 hs4 hs5 hs6 hs7 hs8 hs9 hs10 hs11 hs12 hs13
      replace HB := Aside0.mk (put7_below (c := d) (v := .slice Ad d.f5.length cd) HB.out HGE.out)
      replace HK := Aside0.mk (put7_far (c := d) (v := .slice Ad d.f5.length cd) HK.out HNE.out)
      replace HD := Aside0.mk (put7_self (c := d) (v := .slice Ad d.f5.length cd) HD.out)
      replace HMd := Aside0.mk (put7_C (c := d) (v := .slice Ad d.f5.length cd) HMd.out HAg.out)
      replace HM := Aside0.mk (put7_C' (c := d) (v := .slice Ad d.f5.length cd) HM.out HAc.out)
      generalize put7 w6 gy d (.slice Ad d.f5.length cd) = w7 at HB HK HD HMd HM ⊢
      refine hK.out _ _ ⟨(blk_cell HK.out 0).trans rfl, (blk_cell HK.out 1).trans rfl, (blk_cell HK.out 2).trans rfl, (blk_cell HK.out 3).trans rfl, (blk_cell HK.out 4).trans rfl, (blk_cell HK.out 5).trans rfl, (blk_cell HK.out 6).trans rfl, ((HB.out.cell (World.block_lt_of_cell? w _ HX3.out)).trans HX3.out)⟩ (fun hHeld => ?_)
      clear hK K
      refine pureA_ 10 14 (bm 11 2047) ?_
      refine done_ (done_of HT_.out (by kernel_rfl)) ?_
      try go_wp2
      go_meet
      case rel => exact ⟨Ad, cd, rfl, HLd, HMd, HAd, HM, HB, HK, HD⟩
   case rest =>
   clear HB HK HM HD hbb hg1 hg2 hg3 hg4 hi2 hi3 HX2 HX3 HF HQ HZ
   obtain ⟨Ad, cd, rfl, HLd, HMd, HAd, HM, HB, HK, HD⟩ := hcut
   have hT := HT.out
   clear HT
   by_cases he : e = 0
   case neg =>
    rw [if_neg he] at hT
    by_cases hq : d.f5 = [] ∧ d.f6 = false
    case neg => rw [if_neg hq] at hT; cases hT
    rw [if_pos hq] at hT
    have HN := Aside0.mk hT
    clear hT
    obtain ⟨hq1, hq2⟩ := hq
    have heb : (e != 0) = true := bne_iff_ne.mpr he
    obtain ⟨hs0, hs1, hs2, hs3, hs4, hs5, hs6, hs7, hs8, hs9, hs10, hs11, hs12, hs13⟩ := cz7_ HD.out
    rw [hq1, List.length_nil] at hs5
    rw [hq2] at hs6
    clear he hq1 hq2
    go_wp2
    go_roundw
    case rel => exact ⟨i + 1, cq, Ac, cc, by omega, by go_num, HL, HM, HB, HK, HN⟩
    case measure => simp [intOf]; omega
   subst he
   rw [if_pos rfl] at hT
   obtain ⟨x, h1, h_⟩ := Option.bind_eq_some_iff.mp hT
   replace hT := h_
   clear h_
   have HFx := Aside0.mk h1
   clear h1
   obtain ⟨y, h1, h_⟩ := Option.bind_eq_some_iff.mp hT
   replace hT := h_
   clear h_
   have HFy := Aside0.mk h1
   clear h1
   by_cases hq : (b % 5 < 2 → ¬ d.f1 < d.f3) ∧ x = (xa, 0) ∧ y = (damsonlaw09_ChannelKeeps.sum 0 d.f5, 0) ∧ d.f0 = cq.f0 ∧ d.f3 = cq.f3
   case neg => rw [if_neg hq] at hT; cases hT
   rw [if_pos hq] at hT
   have HN := Aside0.mk hT
   clear hT
   obtain ⟨_, rfl, rfl, h0, h3⟩ := hq
   have h0b : (d.f0 != cq.f0) = false := bne_eq_false_iff_eq.mpr h0
   have h3b : (d.f3 != cq.f3) = false := bne_eq_false_iff_eq.mpr h3
   clear h0 h3 HM HL HAc
   obtain ⟨hs0, hs1, hs2, hs3, hs4, hs5, hs6, hs7, hs8, hs9, hs10, hs11, hs12, hs13⟩ := cz7_ HD.out
   go_wp2_with (first | (go_at_call 30; refine (channel_All.calls k d.f0 d.f1 d.f2 d.f3 d.f4 Ad cd d.f5 d.f6 xa 0 _ HMd.out HLd.out HFx.out).mono ?_; rintro e w8 ⟨rfl, hb⟩; clear HFx; replace HB := Aside0.mk (below_then HB.out HB.out.size hb); replace HK := Aside0.mk (blk_below HK.out hb); replace HD := Aside0.mk (blk_below HD.out hb); replace HMd := Aside0.mk (Kd.C_below HMd.out hb); clear hs0 hs1 hs2 hs3 hs4 hs5 hs6 hs7 hs8 hs9 hs10 hs11 hs12 hs13; obtain ⟨hs0, hs1, hs2, hs3, hs4, hs5, hs6, hs7, hs8, hs9, hs10, hs11, hs12, hs13⟩ := cz7_ HD.out; clear hb) | (go_at_call 28; refine (channel_Held.calls k d.f0 d.f1 d.f2 d.f3 d.f4 Ad cd d.f5 d.f6 (damsonlaw09_ChannelKeeps.sum 0 d.f5) 0 _ HMd.out HLd.out HFy.out).mono ?_; rintro e w9 ⟨rfl, hb⟩; clear HFy; replace HB := Aside0.mk (below_then HB.out HB.out.size hb); replace HK := Aside0.mk (blk_below HK.out hb); replace HD := Aside0.mk (blk_below HD.out hb); replace HMd := Aside0.mk (Kd.C_below HMd.out hb); clear hs0 hs1 hs2 hs3 hs4 hs5 hs6 hs7 hs8 hs9 hs10 hs11 hs12 hs13; obtain ⟨hs0, hs1, hs2, hs3, hs4, hs5, hs6, hs7, hs8, hs9, hs10, hs11, hs12, hs13⟩ := cz7_ HD.out; clear hb))
   have hdl : d.f5.length ≤ 9223372036854775807 := by have := HMd.out.2.1; first | exact this | (unfold maxLen at this; omega)
   go_loopw [19, 148] (fun vs vj wr2 => ∃ (j : Nat) (s : Int), j ≤ d.f5.length ∧ vj = .int .i64 j ∧ vs = .int .u64 s ∧ Aside0 (damsonlaw09_ChannelKeeps.sum s (d.f5.drop j) = damsonlaw09_ChannelKeeps.sum 0 d.f5) ∧ Aside0 (Below w9.heap.size w9 wr2)) (fun _ vj _ => d.f5.length - (intOf vj).toNat)
   case atStart => exact ⟨0, 0, Nat.zero_le _, rfl, rfl, ⟨by rw [List.drop_zero]⟩, ⟨Below.refl _ _⟩⟩
   case round =>
    obtain ⟨j, s, hj, rfl, rfl, HS, HJ⟩ := hrel
    by_cases hjl : j < d.f5.length
    · obtain ⟨adh, eh, hc0, hc1⟩ := at_T44 HMd.out (j : Int) (by omega) (by omega)
      subst eh
      have hdr : d.f5.drop j = rd_T44 d.f5 (j : Int) :: d.f5.drop (j + 1) := by
        rw [List.drop_eq_getElem_cons hjl]
        simp only [rd_T44, Int.toNat_natCast, List.getD_eq_getElem?_getD, List.getElem?_eq_getElem hjl, Option.getD_some]
      have hs := HS.out
      rw [hdr, damsonlaw09_ChannelKeeps.sum] at hs
      clear hdr HS
      obtain ⟨x, hx⟩ : ∃ x, x = rd_T44 d.f5 (j : Int) := ⟨_, rfl⟩
      simp only [← hx, Int.toNat_natCast] at hc0 hc1 hs
      have HS := Aside0.mk hs
      clear hs hx
      replace hc0 := (HJ.out.cell (World.block_lt_of_cell? w9 _ hc0)).trans hc0
      replace hc1 := (HJ.out.cell (World.block_lt_of_cell? w9 _ hc1)).trans hc1
      go_wp2
      go_roundw
      case rel => exact ⟨j + 1, _, by omega, by go_num, rfl, HS, ⟨HJ.out.alloc HJ.out.size _⟩⟩
      case measure => simp [intOf]; omega
    · obtain rfl : j = d.f5.length := by omega
      have hs := HS.out
      rw [List.drop_of_length_le (Nat.le_refl _), damsonlaw09_ChannelKeeps.sum] at hs
      subst hs
      clear HS hs0 hs1 hs2 hs3 hs4 hs5 hs6 hs7 hs8 hs9 hs10 hs11 hs12 hs13
      have hb := HJ.out
      replace HB := Aside0.mk (below_then HB.out HB.out.size hb)
      replace HK := Aside0.mk (blk_below HK.out hb)
      replace HD := Aside0.mk (blk_below HD.out hb)
      replace HMd := Aside0.mk (Kd.C_below HMd.out hb)
      clear hb HJ
      obtain ⟨hs0, hs1, hs2, hs3, hs4, hs5, hs6, hs7, hs8, hs9, hs10, hs11, hs12, hs13⟩ := cz7_ HD.out
      obtain ⟨hz0, hz1, hz2, hz3, hz4, hz5, hz6, hz7, hz8, hz9, hz10, hz11, hz12, hz13⟩ := cz7_ HK.out
      go_wp2
      go_roundw
      case rel => exact ⟨i + 1, d, Ad, cd, by omega, by go_num, HLd, ⟨put7_C HMd.out HAd.out⟩, ⟨put7_below HB.out (Nat.le_refl _)⟩, ⟨put7_self HK.out⟩, HN⟩
      case measure => simp [intOf]; omega
theorem damsonlaw09_ChannelKeeps.calls (k : Nat) (a0_0 : Int) (a0_1 : Int) (a0_2 : Int) (a0_3 : Int) (a0_4 : Int) (A0_5 : Option Addr) (c0_5 : Nat) (l0_5 : List (S44)) (a0_6 : Bool) (A1 : Option Addr) (c1 : Nat) (l1 : List Int) (A2 : Option Addr) (c2 : Nat) (l2 : List Int) (A3 : Option Addr) (c3 : Nat) (l3 : List Int) (r : Bool) (w : World) (hr0_5 : Kd.C k44 w A0_5 l0_5.length l0_5) (hc0_5 : l0_5.length ≤ c0_5) (hr1 : Kd.C (Kd.int .u8) w A1 l1.length l1) (hc1 : l1.length ≤ c1) (hr2 : Kd.C (Kd.int .u64) w A2 l2.length l2) (hc2 : l2.length ≤ c2) (hr3 : Kd.C (Kd.int .u64) w A3 l3.length l3) (hc3 : l3.length ≤ c3) (h : damsonlaw09_ChannelKeeps.f k a0_0 a0_1 a0_2 a0_3 a0_4 l0_5 a0_6 l1 l2 l3 = some r) :
    Calls Try.prog 8 #[.agg #[.int .u64 a0_0, .int .u64 a0_1, .int .u64 a0_2, .int .u64 a0_3, .int .u64 a0_4, .slice A0_5 l0_5.length c0_5, .bool a0_6], .slice A1 l1.length c1, .slice A2 l2.length c2, .slice A3 l3.length c3] w fun e w' => e = .returned (.bool r) ∧ Below w.heap.size w w' := by
  unfold damsonlaw09_ChannelKeeps.f at h
  by_cases hu : (l1.all fun y => decide (0 ≤ y ∧ y ≤ 255)) = true
  · rw [if_pos hu] at h
    exact damsonlaw09_ChannelKeeps.callsS k ⟨a0_0, a0_1, a0_2, a0_3, a0_4, l0_5, a0_6⟩ A0_5 c0_5 A1 c1 l1 A2 c2 l2 A3 c3 l3 r w hr0_5 hc0_5 hr1 hc1 hr2 hc2 hr3 hc3 (fun y hy => of_decide_eq_true (List.all_eq_true.1 hu y hy)) h
  · rw [if_neg hu] at h; cases h


/-- THE ONE PURE STATEMENT of damsonlaw09_ChannelKeeps: yours. -/
def damsonlaw09_ChannelKeeps.Pure : Prop := ∀ (s0 : S25) (l1 : List Int) (l2 : List Int) (l3 : List Int), G25 s0 → (l1.length ≤ 9223372036854775807 ∧ ∀ y_ ∈ l1, (Lit.int .u8 y_).wf = true) → (l2.length ≤ 9223372036854775807 ∧ ∀ y_ ∈ l2, (Lit.int .u64 y_).wf = true) → (l3.length ≤ 9223372036854775807 ∧ ∀ y_ ∈ l3, (Lit.int .u64 y_).wf = true) → ∃ k, damsonlaw09_ChannelKeeps.f k (s0.f0) (s0.f1) (s0.f2) (s0.f3) (s0.f4) (s0.f5) (s0.f6) l1 l2 l3 = some true
theorem damsonlaw09_ChannelKeeps.walk (P : damsonlaw09_ChannelKeeps.Pure) (w : World) (s0 : S25) (A0_5 : Option Addr) (c0_5 : Nat) (hr0_5 : Kd.C k44 w A0_5 (s0.f5).length (s0.f5)) (hc0_5 : (s0.f5).length ≤ c0_5) (g0 : G25 s0) (l1 : List Int) (A1 : Option Addr) (c1 : Nat) (hr1 : Kd.C (Kd.int .u8) w A1 l1.length l1) (hc1 : l1.length ≤ c1) (g1 : l1.length ≤ 9223372036854775807 ∧ ∀ y_ ∈ l1, (Lit.int .u8 y_).wf = true) (l2 : List Int) (A2 : Option Addr) (c2 : Nat) (hr2 : Kd.C (Kd.int .u64) w A2 l2.length l2) (hc2 : l2.length ≤ c2) (g2 : l2.length ≤ 9223372036854775807 ∧ ∀ y_ ∈ l2, (Lit.int .u64 y_).wf = true) (l3 : List Int) (A3 : Option Addr) (c3 : Nat) (hr3 : Kd.C (Kd.int .u64) w A3 l3.length l3) (hc3 : l3.length ≤ c3) (g3 : l3.length ≤ 9223372036854775807 ∧ ∀ y_ ∈ l3, (Lit.int .u64 y_).wf = true) :
    Calls Try.prog 8 #[.agg #[.int .u64 (s0.f0), .int .u64 (s0.f1), .int .u64 (s0.f2), .int .u64 (s0.f3), .int .u64 (s0.f4), .slice A0_5 (s0.f5).length c0_5, .bool (s0.f6)], .slice A1 l1.length c1, .slice A2 l2.length c2, .slice A3 l3.length c3] w fun e w' => e = .returned (.bool true) ∧ Below w.heap.size w w' := by
  obtain ⟨k, h⟩ := P s0 l1 l2 l3 g0 g1 g2 g3
  refine (damsonlaw09_ChannelKeeps.calls k (s0.f0) (s0.f1) (s0.f2) (s0.f3) (s0.f4) A0_5 c0_5 (s0.f5) (s0.f6) A1 c1 l1 A2 c2 l2 A3 c3 l3 true w hr0_5 hc0_5 hr1 hc1 hr2 hc2 hr3 hc3 h).mono ?_
  rintro e w' ⟨rfl, hd⟩
  exact ⟨rfl, hd⟩
end Go.Proofs.Ytcfbcoinbecdfaa.P
