-- written by a program of this session (wip/print)
import Derived.Test.YtcfbcoinbecdfaaProg
import Derived.Below
import Derived.Deep.Draws
import Derived.Deep.AppendLies
import Derived.Maps.AppendAt
import Derived.OwnWalk
import Derived.Laws.BytesArg
import Derived.Laws.MakeOwn
import Derived.Laws.OwnMore
import Derived.Deep.OwnRows
import Derived.Tactics
import Derived.Lib.ConvBytes
import Derived.Laws.Slices
import Derived.WalkKit
import Derived.KernelRfl
import Derived.RowKit3
import Derived.Deep.LoopGhost
import Derived.Deep.QuietTactic
import Derived.BigQuiet
import Derived.WideLaws
import Derived.Deep.DeepCutAuto
import Derived.Deep.CutBlock
import Derived.Deep.RegionHeld3
import Derived.Laws.Rows
import Derived.Lib.AppendStr
import Derived.ArgAppend
import Derived.Laws.IdiomCopy
import Derived.OrdersHeld
import Derived.Laws.BitsLemmas
import Derived.RowKit
import Derived.Maps.OwnSet
import Derived.Maps.Views
import Derived.Carry
import Derived.IntWalk
import Derived.Test.YtcfbcoinbecdfaaVLd0
namespace Go.Proofs.Ytcfbcoinbecdfaa.P
open Go.RowKit Go.Proofs.YtcfbcoinbecdfaaW.PrintWords Go.Proofs.YtcfbcoinbecdfaaW.PrintLast Go.Proofs.YtcfbcoinbecdfaaW.PrintMore
attribute [local go_sem] max2_int min2_int max_two min_two max_three min_three max_four min_four run_sub64_   -- for this text's walks alone
set_option linter.unusedVariables false
set_option linter.unusedSimpArgs false



def errW : Option Int → Value
  | none => .nilIface
  | some c => .iface 0 (.int .i64 c)
theorem errW_none : errW none = .nilIface := rfl
theorem errW_some (c : Int) : errW (some c) = .iface 0 (.int .i64 c) := rfl

theorem info22 : (Try.prog.info? 22).map (fun i => (i.zero, i.size, i.bytes)) = some (some (.int .u64 0), 1, 8) := by kernel_rfl
theorem info25 : (Try.prog.info? 25).map (fun i => (i.zero, i.size, i.bytes)) = some (some (.agg #[(.int .u64 0), (.int .u64 0), (.int .u64 0), (.int .u64 0), (.int .u64 0), (.slice none 0 0), (.bool false)]), 7, 72) := by kernel_rfl
theorem info44 : (Try.prog.info? 44).map (fun i => (i.zero, i.size, i.bytes)) = some (some (.agg #[(.int .u64 0), (.int .u64 0)]), 2, 16) := by kernel_rfl
-- the values' own types
/-! #### struct type 44 -/
structure S44 where
  f0 : Int
  f1 : Int
def z44 : S44 := ⟨(0 : Int), (0 : Int)⟩
def k44 : Kd S44 := Kd.iso (Kd.pair (Kd.int .u64) (Kd.int .u64)) (fun x : S44 => (x.f0, x.f1))
theorem k44_open {w : World} {x : S44} {cs : List Value} (h : k44.K w x cs) : cs = [.int .u64 x.f0, .int .u64 x.f1] := by
  obtain ⟨_, _, rfl, rfl, rfl⟩ := h
  exact rfl
theorem k44_openM {w : World} {base : Nat} {ok : Nat → Prop} {x : S44} {cs : List Value} (h : k44.M w base ok x cs) : cs = [.int .u64 x.f0, .int .u64 x.f1] := by
  obtain ⟨_, _, rfl, rfl, rfl⟩ := h
  exact rfl
theorem k44_mk (w : World) (x : S44)  : k44.K w x [.int .u64 x.f0, .int .u64 x.f1] := ⟨[.int .u64 x.f0], [.int .u64 x.f1], rfl, rfl, rfl⟩
theorem k44_mkM (w : World) (base : Nat) (ok : Nat → Prop) (x : S44)  : k44.M w base ok x [.int .u64 x.f0, .int .u64 x.f1] := ⟨[.int .u64 x.f0], [.int .u64 x.f1], rfl, rfl, rfl⟩
def rd_T44 (xs : List S44) (i : Int) : S44 := xs.getD i.toNat z44
theorem at_T44 {w : World} {A : Option Addr} {n : Nat} {xs : List S44} (h : Kd.C k44 w A n xs) (i : Int) (h0 : 0 ≤ i) (h1 : i < n) : ∃ ad , A = some ad ∧ w.cell? (ad.add (i.toNat * 2)) = some (.int .u64 (rd_T44 xs i).f0) ∧ w.cell? ⟨(ad.add (i.toNat * 2)).block, (ad.add (i.toNat * 2)).off + 1, none⟩ = some (.int .u64 (rd_T44 xs i).f1) := by
  obtain ⟨ad, c, e, _, hK, hc0⟩ := Kd.C_get h z44 i h0 h1
  have hc : ∀ j u, c[j]? = some u → w.cell? (ad.add (i.toNat * 2 + j)) = some u := hc0
  obtain rfl := k44_open hK
  exact ⟨ad, e, hc 0 _ rfl, by rw [← add_field _ _ 1 (by omega)]; exact hc 1 _ rfl⟩

def rd_L2 (xs : List (List S44)) (i : Int) : (List S44) := xs.getD i.toNat ([] : List S44)
theorem at_L2 {w : World} {A : Option Addr} {n : Nat} {xs : List (List S44)} (h : Kd.C (Kd.slice 44 k44) w A n xs) (i : Int) (h0 : 0 ≤ i) (h1 : i < n) : ∃ ad A0 c0, A = some ad ∧ w.cell? (ad.add i.toNat) = some (.slice A0 (rd_L2 xs i).length c0) ∧ (rd_L2 xs i).length ≤ c0 ∧ k44.C w A0 (rd_L2 xs i).length (rd_L2 xs i) := by
  obtain ⟨ad, c, e, _, hK, hc0⟩ := Kd.C_get h ([] : List S44) i h0 h1
  have hc : ∀ j u, c[j]? = some u → w.cell? (ad.add (i.toNat * 1 + j)) = some u := hc0
  obtain ⟨A0, c0, rfl, l0, g0⟩ := hK
  exact ⟨ad, A0, c0, e, by have hq := hc 0 _ rfl; rwa [Nat.mul_one, Nat.add_zero] at hq, l0, g0⟩

/-! #### struct type 25 -/
structure S25 where
  f0 : Int
  f1 : Int
  f2 : Int
  f3 : Int
  f4 : Int
  f5 : (List S44)
  f6 : Bool
def z25 : S25 := ⟨(0 : Int), (0 : Int), (0 : Int), (0 : Int), (0 : Int), ([] : List S44), false⟩
def k25 : Kd S25 := Kd.iso (Kd.pair (Kd.int .u64) (Kd.pair (Kd.int .u64) (Kd.pair (Kd.int .u64) (Kd.pair (Kd.int .u64) (Kd.pair (Kd.int .u64) (Kd.pair (Kd.slice 44 k44) Kd.bool)))))) (fun x : S25 => (x.f0, x.f1, x.f2, x.f3, x.f4, x.f5, x.f6))
theorem k25_open {w : World} {x : S25} {cs : List Value} (h : k25.K w x cs) : ∃ A5 c5, cs = [.int .u64 x.f0, .int .u64 x.f1, .int .u64 x.f2, .int .u64 x.f3, .int .u64 x.f4, .slice A5 x.f5.length c5, .bool x.f6] ∧ x.f5.length ≤ c5 ∧ k44.C w A5 x.f5.length x.f5 := by
  obtain ⟨_, _, rfl, rfl, ⟨_, _, rfl, rfl, ⟨_, _, rfl, rfl, ⟨_, _, rfl, rfl, ⟨_, _, rfl, rfl, ⟨_, _, rfl, ⟨A5, c5, rfl, l5, g5⟩, rfl⟩⟩⟩⟩⟩⟩ := h
  exact ⟨A5, c5, rfl, l5, g5⟩
theorem k25_openM {w : World} {base : Nat} {ok : Nat → Prop} {x : S25} {cs : List Value} (h : k25.M w base ok x cs) : ∃ v5, cs = [.int .u64 x.f0, .int .u64 x.f1, .int .u64 x.f2, .int .u64 x.f3, .int .u64 x.f4, v5, .bool x.f6] ∧ k44.R 44 w base ok v5 x.f5 := by
  obtain ⟨_, _, rfl, rfl, ⟨_, _, rfl, rfl, ⟨_, _, rfl, rfl, ⟨_, _, rfl, rfl, ⟨_, _, rfl, rfl, ⟨_, _, rfl, ⟨v5, rfl, g5⟩, rfl⟩⟩⟩⟩⟩⟩ := h
  exact ⟨v5, rfl, g5⟩
theorem k25_mk (w : World) (x : S25) {A5 : Option Addr} {c5 : Nat} (l5 : x.f5.length ≤ c5) (g5 : k44.C w A5 x.f5.length x.f5) : k25.K w x [.int .u64 x.f0, .int .u64 x.f1, .int .u64 x.f2, .int .u64 x.f3, .int .u64 x.f4, .slice A5 x.f5.length c5, .bool x.f6] := ⟨[.int .u64 x.f0], [.int .u64 x.f1, .int .u64 x.f2, .int .u64 x.f3, .int .u64 x.f4, .slice A5 x.f5.length c5, .bool x.f6], rfl, rfl, ⟨[.int .u64 x.f1], [.int .u64 x.f2, .int .u64 x.f3, .int .u64 x.f4, .slice A5 x.f5.length c5, .bool x.f6], rfl, rfl, ⟨[.int .u64 x.f2], [.int .u64 x.f3, .int .u64 x.f4, .slice A5 x.f5.length c5, .bool x.f6], rfl, rfl, ⟨[.int .u64 x.f3], [.int .u64 x.f4, .slice A5 x.f5.length c5, .bool x.f6], rfl, rfl, ⟨[.int .u64 x.f4], [.slice A5 x.f5.length c5, .bool x.f6], rfl, rfl, ⟨[.slice A5 x.f5.length c5], [.bool x.f6], rfl, ⟨A5, c5, rfl, l5, g5⟩, rfl⟩⟩⟩⟩⟩⟩
theorem k25_mkM (w : World) (base : Nat) (ok : Nat → Prop) (x : S25) {v5 : Value} (g5 : k44.R 44 w base ok v5 x.f5) : k25.M w base ok x [.int .u64 x.f0, .int .u64 x.f1, .int .u64 x.f2, .int .u64 x.f3, .int .u64 x.f4, v5, .bool x.f6] := ⟨[.int .u64 x.f0], [.int .u64 x.f1, .int .u64 x.f2, .int .u64 x.f3, .int .u64 x.f4, v5, .bool x.f6], rfl, rfl, ⟨[.int .u64 x.f1], [.int .u64 x.f2, .int .u64 x.f3, .int .u64 x.f4, v5, .bool x.f6], rfl, rfl, ⟨[.int .u64 x.f2], [.int .u64 x.f3, .int .u64 x.f4, v5, .bool x.f6], rfl, rfl, ⟨[.int .u64 x.f3], [.int .u64 x.f4, v5, .bool x.f6], rfl, rfl, ⟨[.int .u64 x.f4], [v5, .bool x.f6], rfl, rfl, ⟨[v5], [.bool x.f6], rfl, ⟨v5, rfl, g5⟩, rfl⟩⟩⟩⟩⟩⟩
def rd_T25 (xs : List S25) (i : Int) : S25 := xs.getD i.toNat z25
theorem at_T25 {w : World} {A : Option Addr} {n : Nat} {xs : List S25} (h : Kd.C k25 w A n xs) (i : Int) (h0 : 0 ≤ i) (h1 : i < n) : ∃ ad A5 c5, A = some ad ∧ w.cell? (ad.add (i.toNat * 7)) = some (.int .u64 (rd_T25 xs i).f0) ∧ w.cell? ⟨(ad.add (i.toNat * 7)).block, (ad.add (i.toNat * 7)).off + 1, none⟩ = some (.int .u64 (rd_T25 xs i).f1) ∧ w.cell? ⟨(ad.add (i.toNat * 7)).block, (ad.add (i.toNat * 7)).off + 2, none⟩ = some (.int .u64 (rd_T25 xs i).f2) ∧ w.cell? ⟨(ad.add (i.toNat * 7)).block, (ad.add (i.toNat * 7)).off + 3, none⟩ = some (.int .u64 (rd_T25 xs i).f3) ∧ w.cell? ⟨(ad.add (i.toNat * 7)).block, (ad.add (i.toNat * 7)).off + 4, none⟩ = some (.int .u64 (rd_T25 xs i).f4) ∧ w.cell? ⟨(ad.add (i.toNat * 7)).block, (ad.add (i.toNat * 7)).off + 5, none⟩ = some (.slice A5 (rd_T25 xs i).f5.length c5) ∧ w.cell? ⟨(ad.add (i.toNat * 7)).block, (ad.add (i.toNat * 7)).off + 6, none⟩ = some (.bool (rd_T25 xs i).f6) ∧ (rd_T25 xs i).f5.length ≤ c5 ∧ k44.C w A5 (rd_T25 xs i).f5.length (rd_T25 xs i).f5 := by
  obtain ⟨ad, c, e, _, hK, hc0⟩ := Kd.C_get h z25 i h0 h1
  have hc : ∀ j u, c[j]? = some u → w.cell? (ad.add (i.toNat * 7 + j)) = some u := hc0
  obtain ⟨A5, c5, rfl, l5, g5⟩ := k25_open hK
  exact ⟨ad, A5, c5, e, hc 0 _ rfl, by rw [← add_field _ _ 1 (by omega)]; exact hc 1 _ rfl, by rw [← add_field _ _ 2 (by omega)]; exact hc 2 _ rfl, by rw [← add_field _ _ 3 (by omega)]; exact hc 3 _ rfl, by rw [← add_field _ _ 4 (by omega)]; exact hc 4 _ rfl, by rw [← add_field _ _ 5 (by omega)]; exact hc 5 _ rfl, by rw [← add_field _ _ 6 (by omega)]; exact hc 6 _ rfl, l5, g5⟩

theorem moves44 : Moves k44 := moves_iso _ (moves_pair (moves_scalar _ _) (moves_scalar _ _))
def G44 (x : S44) : Prop := (Lit.int .u64 x.f0).wf = true ∧ (Lit.int .u64 x.f1).wf = true
theorem opens44 : Opens Try.prog k44 44 G44 := opens_iso (fun x : S44 => (x.f0, x.f1)) (fun p => ⟨p.1, p.2⟩) (fun _ => rfl) (opens_struct Try.underlying44 (by kernel_rfl) (opensF_cons rfl (by kernel_rfl) (opens_int Try.underlying22) (opensF_one rfl (by kernel_rfl) (opens_int Try.underlying22))))
theorem moves25 : Moves k25 := moves_iso _ (moves_pair (moves_scalar _ _) (moves_pair (moves_scalar _ _) (moves_pair (moves_scalar _ _) (moves_pair (moves_scalar _ _) (moves_pair (moves_scalar _ _) (moves_pair (moves_slice _ moves44) (moves_scalar _ _)))))))
def G25 (x : S25) : Prop := (Lit.int .u64 x.f0).wf = true ∧ (Lit.int .u64 x.f1).wf = true ∧ (Lit.int .u64 x.f2).wf = true ∧ (Lit.int .u64 x.f3).wf = true ∧ (Lit.int .u64 x.f4).wf = true ∧ (x.f5.length ≤ 9223372036854775807 ∧ ∀ y_ ∈ x.f5, G44 y_) ∧ True
theorem opens25 : Opens Try.prog k25 25 G25 := opens_iso (fun x : S25 => (x.f0, x.f1, x.f2, x.f3, x.f4, x.f5, x.f6)) (fun p => ⟨p.1, p.2.1, p.2.2.1, p.2.2.2.1, p.2.2.2.2.1, p.2.2.2.2.2.1, p.2.2.2.2.2.2⟩) (fun _ => rfl) (opens_struct Try.underlying25 (by kernel_rfl) (opensF_cons rfl (by kernel_rfl) (opens_int Try.underlying22) (opensF_cons rfl (by kernel_rfl) (opens_int Try.underlying22) (opensF_cons rfl (by kernel_rfl) (opens_int Try.underlying22) (opensF_cons rfl (by kernel_rfl) (opens_int Try.underlying22) (opensF_cons rfl (by kernel_rfl) (opens_int Try.underlying22) (opensF_cons rfl (by kernel_rfl) (opens_slice Try.underlying23 (by kernel_rfl) opens44) (opensF_one rfl (by kernel_rfl) (opens_bool Try.underlying4)))))))))
/-- Where a row lies is not in the block g. -/
def Away (g : Nat) (A : Option Addr) : Prop := ∀ a, A = some a → a.block ≠ g
theorem add_block (a : Addr) (j : Nat) : (a.add j).block = a.block := by unfold Addr.add; split <;> rfl
theorem C44_put {w : World} {A : Option Addr} {n : Nat} {xs : List S44} (h : Kd.C k44 w A n xs) {g : Nat} (ha : Away g A) (j : Nat) (v : Value) : Kd.C k44 (w.setCell ⟨g, j, none⟩ v) A n xs := by
  obtain ⟨h1, h2, h3⟩ := h
  refine ⟨h1, h2, fun hn => ?_⟩
  obtain ⟨a, e, hx⟩ := h3 hn
  refine ⟨a, e, fun i p hp => ?_⟩
  obtain ⟨c, q1, q2, q3⟩ := hx i p hp
  exact ⟨c, q1, q2, fun i' u hu => (cell_far (by rw [add_block]; exact ha a e) v).trans (q3 i' u hu)⟩
theorem R44_away {w : World} {base : Nat} {ok : Nat → Prop} {A : Option Addr} {n c : Nat} {xs : List S44} (h : Kd.R k44 44 w base ok (.slice A n c) xs) {g : Nat} (hg : g < base) : Away g A := by
  obtain ⟨hb0, in0, hown0, hr0⟩ := h
  rcases hown0 with ⟨hl0, ⟨e, h0⟩ | ⟨g1, cap, cur, e, hgb, _⟩⟩
  · injection e with e1
    subst e1
    intro a h; cases h
  · injection e with e1
    subst e1
    intro a h
    injection h with h
    subst h
    show g1 ≠ g
    omega
theorem C_away {w : World} {A : Option Addr} {n : Nat} {xs : List S44} (h : Kd.C k44 w A n xs) : xs = [] ∨ Away w.heap.size A := by
  rcases Nat.eq_zero_or_pos n with h0 | h0
  · left
    have := h.1
    cases xs with
    | nil => rfl
    | cons x xs => simp at this; omega
  · right
    obtain ⟨a, e, hx⟩ := h.2.2 h0
    intro a' e'
    rw [e] at e'
    injection e' with e'
    subst e'
    have hl := h.1
    obtain ⟨p, hp⟩ : ∃ p, xs[0]? = some p := ⟨_, List.getElem?_eq_getElem (by omega)⟩
    obtain ⟨c, q1, q2, q3⟩ := hx 0 p hp
    have hc : 0 < c.length := by rw [q1]; decide
    have := World.block_lt_of_cell? w _ (q3 0 _ (List.getElem?_eq_getElem hc))
    rw [add_block] at this
    omega
/-- A whole channel is stored. -/
def put7 (w : World) (g : Nat) (c : S25) (v : Value) : World := ((((((w.setCell ⟨g, 0, none⟩ (.int .u64 c.f0)).setCell ⟨g, 1, none⟩ (.int .u64 c.f1)).setCell ⟨g, 2, none⟩ (.int .u64 c.f2)).setCell ⟨g, 3, none⟩ (.int .u64 c.f3)).setCell ⟨g, 4, none⟩ (.int .u64 c.f4)).setCell ⟨g, 5, none⟩ v).setCell ⟨g, 6, none⟩ (.bool c.f6)
theorem put7_below {B : Nat} {w0 w : World} {g : Nat} {c : S25} {v : Value} (h : Below B w0 w) (hg : B ≤ g) : Below B w0 (put7 w g c v) := by
  unfold put7
  exact ((((((h.setCell hg _).setCell hg _).setCell hg _).setCell hg _).setCell hg _).setCell hg _).setCell hg _
theorem put7_far {w : World} {g g' : Nat} {c : S25} {v : Value} {cs : Array Value} {t : TypeId} (h : w.heap[g']? = some (.cells cs t (0, 0))) (hne : g' ≠ g) : (put7 w g c v).heap[g']? = some (.cells cs t (0, 0)) := by
  unfold put7
  exact blk_far (blk_far (blk_far (blk_far (blk_far (blk_far (blk_far h hne _) hne _) hne _) hne _) hne _) hne _) hne _
theorem put7_self {w : World} {g : Nat} {c : S25} {v a0 a1 a2 a3 a4 a5 a6 : Value} {t : TypeId} (h : w.heap[g]? = some (.cells #[a0, a1, a2, a3, a4, a5, a6] t (0, 0))) : (put7 w g c v).heap[g]? = some (.cells #[.int .u64 c.f0, .int .u64 c.f1, .int .u64 c.f2, .int .u64 c.f3, .int .u64 c.f4, v, .bool c.f6] t (0, 0)) := by
  unfold put7
  have h7 := blk_set (blk_set (blk_set (blk_set (blk_set (blk_set (blk_set h 0 (.int .u64 c.f0)) 1 (.int .u64 c.f1)) 2 (.int .u64 c.f2)) 3 (.int .u64 c.f3)) 4 (.int .u64 c.f4)) 5 v) 6 (.bool c.f6)
  simp only [List.setIfInBounds_toArray, List.set_cons_zero, List.set_cons_succ] at h7
  exact h7
theorem C44_nil {w w' : World} {A : Option Addr} {xs : List S44} (h : Kd.C k44 w A xs.length xs) (h0 : xs = []) : Kd.C k44 w' A xs.length xs := by
  subst h0
  exact ⟨rfl, h.2.1, fun hn => absurd hn (Nat.lt_irrefl 0)⟩
theorem put7_C {w : World} {g : Nat} {c : S25} {v : Value} {A : Option Addr} {n : Nat} {xs : List S44} (h : Kd.C k44 w A n xs) (ha : Away g A) : Kd.C k44 (put7 w g c v) A n xs := by
  unfold put7
  exact C44_put (C44_put (C44_put (C44_put (C44_put (C44_put (C44_put h ha _ _) ha _ _) ha _ _) ha _ _) ha _ _) ha _ _) ha _ _
theorem put7_C' {w : World} {g : Nat} {c : S25} {v : Value} {A : Option Addr} {xs : List S44} (h : Kd.C k44 w A xs.length xs) (ha : xs = [] ∨ Away g A) : Kd.C k44 (put7 w g c v) A xs.length xs := by
  rcases ha with h0 | ha
  · exact C44_nil h h0
  · exact put7_C h ha
theorem rd_mem9 {l : List Int} {i : Nat} (h : i < l.length) : rd l (i : Int) ∈ l := by
  simp only [rd, Int.toNat_natCast, List.getD_eq_getElem?_getD, List.getElem?_eq_getElem h, Option.getD_some]
  exact List.getElem_mem h
/-- A row of holds that may be written to. -/
def Row44 (w : World) (B : Nat) (v : Value) (n : Nat) : Prop := n = 0 ∨ ∃ g c cur, v = .slice (some ⟨g, 0, none⟩) n c ∧ B ≤ g ∧ w.heap[g]? = some (.cells cur 44 (0, 0)) ∧ ∀ i, i < n → ∃ z : Int, cur[i * 2 + 1]? = some (.int .u64 z)
theorem row44_of_R {w : World} {base B : Nat} {ok : Nat → Prop} {v : Value} {xs : List S44} (h : Kd.R k44 44 w base ok v xs) (hB : B ≤ base) : Row44 w B v xs.length := by
  rcases Nat.eq_zero_or_pos xs.length with h0 | h0
  · exact .inl h0
  · obtain ⟨g, cap, rfl, hbg, hgl, cells, hblk⟩ := Kd.R_form h h0
    refine .inr ⟨g, cap, cells, rfl, Nat.le_trans hB hbg, hblk, fun i hi => ?_⟩
    obtain ⟨ad, e, q0, q1⟩ := at_T44 (Kd.R_reads' h).2.2 (i : Int) (by omega) (by omega)
    injection e with e
    subst e
    rw [Int.toNat_natCast, add_plain] at q1
    exact ⟨_, (blk_cell hblk _).symm.trans q1⟩
theorem Row44.below {w w1 : World} {B : Nat} {v : Value} {n : Nat} (h : Row44 w B v n) (hb : Below w.heap.size w w1) : Row44 w1 B v n := by
  rcases h with h | ⟨g, c, cur, hv, hg, hblk, hz⟩
  · exact .inl h
  · exact .inr ⟨g, c, cur, hv, hg, blk_below hblk hb, hz⟩
theorem Row44.put {w : World} {B : Nat} {v : Value} {n : Nat} (h : Row44 w B v n) {g : Nat} {cur : Array Value} (hc : w.heap[g]? = some (.cells cur 44 (0, 0))) (j : Nat) (z : Int) : Row44 (w.setCell ⟨g, j, none⟩ (.int .u64 z)) B v n := by
  rcases h with h | ⟨g1, c, cur1, hv, hg, hblk, hz⟩
  · exact .inl h
  · by_cases e : g1 = g
    · subst e
      rw [hblk] at hc
      injection hc with hc
      injection hc with hc
      subst hc
      refine .inr ⟨g1, c, _, hv, hg, blk_set hblk j _, fun i hi => ?_⟩
      obtain ⟨z1, hz1⟩ := hz i hi
      by_cases ej : j = i * 2 + 1
      · subst ej
        have hlt := (Array.getElem?_eq_some_iff.1 hz1).1
        exact ⟨z, by rw [Array.getElem?_setIfInBounds, if_pos rfl, if_pos hlt]⟩
      · exact ⟨z1, by rw [Array.getElem?_setIfInBounds, if_neg ej]; exact hz1⟩
    · exact .inr ⟨g1, c, cur1, hv, hg, blk_far hblk e _, hz⟩
/-- What stays while the rows that were made are written to. -/
structure InvC (wb : World) (va : Value) (na : Nat) (vu : Value) (nu : Nat) (wr : World) : Prop where
  bel : Below wb.heap.size wb wr
  a : Row44 wr wb.heap.size va na
  u : Row44 wr wb.heap.size vu nu
theorem InvC.put {wb : World} {va : Value} {na : Nat} {vu : Value} {nu : Nat} {wr : World} (h : InvC wb va na vu nu wr) {g : Nat} {cur : Array Value} (hc : wr.heap[g]? = some (.cells cur 44 (0, 0))) (hg : wb.heap.size ≤ g) (j : Nat) (z : Int) : InvC wb va na vu nu (wr.setCell ⟨g, j, none⟩ (.int .u64 z)) :=
  ⟨h.bel.setCell hg _, h.a.put hc j z, h.u.put hc j z⟩
def pk7 (r : Int × Int × Int × Int × Int × List S44 × Bool) : S25 := ⟨r.1, r.2.1, r.2.2.1, r.2.2.2.1, r.2.2.2.2.1, r.2.2.2.2.2.1, r.2.2.2.2.2.2⟩
def pk8 (r : Int × Int × Int × Int × Int × List S44 × Bool × Int) : S25 × Int := (⟨r.1, r.2.1, r.2.2.1, r.2.2.2.1, r.2.2.2.2.1, r.2.2.2.2.2.1, r.2.2.2.2.2.2.1⟩, r.2.2.2.2.2.2.2)
def pk9 (r : Int × Int × Int × Int × Int × List S44 × Bool × Int × Int) : S25 × Int × Int := (⟨r.1, r.2.1, r.2.2.1, r.2.2.2.1, r.2.2.2.2.1, r.2.2.2.2.2.1, r.2.2.2.2.2.2.1⟩, r.2.2.2.2.2.2.2.1, r.2.2.2.2.2.2.2.2)
theorem map7 {o : Option (Int × Int × Int × Int × Int × List S44 × Bool)} {a : S25} (h : (o.bind fun r => some (pk7 r)) = some a) : o = some (a.f0, a.f1, a.f2, a.f3, a.f4, a.f5, a.f6) := by
  obtain ⟨r, h1, h2⟩ := Option.bind_eq_some_iff.mp h
  rw [h1]
  injection h2 with h2
  subst h2
  rfl
theorem map8 {o : Option (Int × Int × Int × Int × Int × List S44 × Bool × Int)} {a : S25} {e : Int} (h : (o.bind fun r => some (pk8 r)) = some (a, e)) : o = some (a.f0, a.f1, a.f2, a.f3, a.f4, a.f5, a.f6, e) := by
  obtain ⟨r, h1, h2⟩ := Option.bind_eq_some_iff.mp h
  rw [h1]
  injection h2 with h2
  injection h2 with h2 h3
  subst h2 h3
  rfl
theorem map9 {o : Option (Int × Int × Int × Int × Int × List S44 × Bool × Int × Int)} {a : S25} {n e : Int} (h : (o.bind fun r => some (pk9 r)) = some (a, n, e)) : o = some (a.f0, a.f1, a.f2, a.f3, a.f4, a.f5, a.f6, n, e) := by
  obtain ⟨r, h1, h2⟩ := Option.bind_eq_some_iff.mp h
  rw [h1]
  injection h2 with h2
  injection h2 with h2 h3
  injection h3 with h3 h4
  subst h2 h3 h4
  rfl
theorem blk_new2 (w : World) (o o2 : Obj) : ((w.alloc o).alloc o2).heap[w.heap.size + 1]? = some o2 := by
  have h := blk_new (w.alloc o) o2
  have e : (w.alloc o).heap.size = w.heap.size + 1 := by simp
  rw [e] at h
  exact h
theorem blk_low {B g : Nat} {w w1 : World} {o : Obj} (h : w.heap[g]? = some o) (hb : Below B w w1) (hg : g < B) : w1.heap[g]? = some o := (hb.block g hg).trans h
theorem put7_R {w : World} {g base : Nat} {c : S25} {v u : Value} {ok : Nat → Prop} {xs : List S44} (h : Kd.R k44 44 w base ok u xs) (hok : ∀ k, ok k → k ≠ g) : Kd.R k44 44 (put7 w g c v) base ok u xs := by
  unfold put7
  exact Kd.R_far (p := ⟨g, 6, none⟩) (Kd.R_far (p := ⟨g, 5, none⟩) (Kd.R_far (p := ⟨g, 4, none⟩) (Kd.R_far (p := ⟨g, 3, none⟩) (Kd.R_far (p := ⟨g, 2, none⟩) (Kd.R_far (p := ⟨g, 1, none⟩) (Kd.R_far (p := ⟨g, 0, none⟩) h hok _) hok _) hok _) hok _) hok _) hok _) hok _
theorem box5 {w : World} {g : Nat} {t : TypeId} {a0 a1 a2 a3 a4 a5 a6 : Value} (h : w.heap[g]? = some (.cells #[a0, a1, a2, a3, a4, a5, a6] t (0, 0))) (v : Value) : (w.setCell ⟨g, 5, none⟩ v).heap[g]? = some (.cells #[a0, a1, a2, a3, a4, v, a6] t (0, 0)) := by
  have h7 := blk_set h 5 v
  simp only [List.setIfInBounds_toArray, List.set_cons_zero, List.set_cons_succ] at h7
  exact h7
theorem box1 {w : World} {g : Nat} {t : TypeId} {a0 a1 a2 a3 a4 a5 a6 : Value} (h : w.heap[g]? = some (.cells #[a0, a1, a2, a3, a4, a5, a6] t (0, 0))) (v : Value) : (w.setCell ⟨g, 1, none⟩ v).heap[g]? = some (.cells #[a0, v, a2, a3, a4, a5, a6] t (0, 0)) := by
  have h7 := blk_set h 1 v
  simp only [List.setIfInBounds_toArray, List.set_cons_zero, List.set_cons_succ] at h7
  exact h7
theorem drop44 {l : List S44} {i : Nat} (h : i < l.length) : l.drop i = rd_T44 l (i : Int) :: l.drop (i + 1) := by
  rw [List.drop_eq_getElem_cons h]
  simp only [rd_T44, Int.toNat_natCast, List.getD_eq_getElem?_getD, List.getElem?_eq_getElem h, Option.getD_some]
theorem take44 {l : List S44} {i : Nat} (h : i < l.length) : l.take (i + 1) = l.take i ++ [rd_T44 l (i : Int)] := by
  rw [List.take_succ_eq_append_getElem h]
  simp only [rd_T44, Int.toNat_natCast, List.getD_eq_getElem?_getD, List.getElem?_eq_getElem h, Option.getD_some]
theorem filter_take44 {l : List S44} {i : Nat} (p : S44 → Bool) (h : i < l.length) : (l.take (i + 1)).filter p = (l.take i).filter p ++ (if p (rd_T44 l (i : Int)) = true then [rd_T44 l (i : Int)] else []) := by
  rw [take44 h, List.filter_append]
  congr 1
  by_cases q : p (rd_T44 l (i : Int)) = true
  · rw [if_pos q, List.filter_cons_of_pos q]; rfl
  · rw [if_neg q, List.filter_cons_of_neg q]; rfl
theorem zero7_self {w : World} {g : Nat} {a0 a1 a2 a3 a4 a5 a6 : Value} {t : TypeId} (h : w.heap[g]? = some (.cells #[a0, a1, a2, a3, a4, a5, a6] t (0, 0))) : (((((((w.setCell ⟨g, 0, none⟩ (.int .u64 0)).setCell ⟨g, 1, none⟩ (.int .u64 0)).setCell ⟨g, 2, none⟩ (.int .u64 0)).setCell ⟨g, 3, none⟩ (.int .u64 0)).setCell ⟨g, 4, none⟩ (.int .u64 0)).setCell ⟨g, 5, none⟩ (.slice none 0 0)).setCell ⟨g, 6, none⟩ (.bool false)).heap[g]? = some (.cells #[.int .u64 0, .int .u64 0, .int .u64 0, .int .u64 0, .int .u64 0, .slice none 0 0, .bool false] t (0, 0)) := by
  have h7 := blk_set (blk_set (blk_set (blk_set (blk_set (blk_set (blk_set h 0 (.int .u64 0)) 1 (.int .u64 0)) 2 (.int .u64 0)) 3 (.int .u64 0)) 4 (.int .u64 0)) 5 (.slice none 0 0)) 6 (.bool false)
  simp only [List.setIfInBounds_toArray, List.set_cons_zero, List.set_cons_succ] at h7
  exact h7
theorem zero7_below {B : Nat} {w0 w : World} {g : Nat} (h : Below B w0 w) (hg : B ≤ g) : Below B w0 (((((((w.setCell ⟨g, 0, none⟩ (.int .u64 0)).setCell ⟨g, 1, none⟩ (.int .u64 0)).setCell ⟨g, 2, none⟩ (.int .u64 0)).setCell ⟨g, 3, none⟩ (.int .u64 0)).setCell ⟨g, 4, none⟩ (.int .u64 0)).setCell ⟨g, 5, none⟩ (.slice none 0 0)).setCell ⟨g, 6, none⟩ (.bool false)) := ((((((h.setCell hg _).setCell hg _).setCell hg _).setCell hg _).setCell hg _).setCell hg _).setCell hg _
/-- A channel's cells, as they are read. -/
def Ch0 (w : World) (x : S25) (cs : List Value) : Prop := ∃ A c, cs = [.int .u64 x.f0, .int .u64 x.f1, .int .u64 x.f2, .int .u64 x.f3, .int .u64 x.f4, .slice A x.f5.length c, .bool x.f6] ∧ x.f5.length ≤ c ∧ Kd.C k44 w A x.f5.length x.f5
/-- A channel's cells whose holds may be written to. -/
def Ch (w : World) (B : Nat) (x : S25) (cs : List Value) : Prop := ∃ A c, cs = [.int .u64 x.f0, .int .u64 x.f1, .int .u64 x.f2, .int .u64 x.f3, .int .u64 x.f4, .slice A x.f5.length c, .bool x.f6] ∧ x.f5.length ≤ c ∧ Kd.C k44 w A x.f5.length x.f5 ∧ Row44 w B (.slice A x.f5.length c) x.f5.length
/-- A row of channels that were made: the row, and the holds, may be written to. -/
def Own25 (w : World) (B : Nat) (v : Value) (xs : List S25) : Prop := ∃ rows : List (List Value), Kd.R (Kd.raw 7) 25 w B (fun _ => True) v rows ∧ rows.length = xs.length ∧ ∀ (j : Nat) (x : S25), xs[j]? = some x → ∃ cs, rows[j]? = some cs ∧ Ch w B x cs
theorem Ch.read {w : World} {B : Nat} {x : S25} {cs : List Value} (h : Ch w B x cs) : Ch0 w x cs := by
  obtain ⟨A, c, h1, h2, h3, _⟩ := h
  exact ⟨A, c, h1, h2, h3⟩
theorem Ch.below {w w1 : World} {B : Nat} {x : S25} {cs : List Value} (h : Ch w B x cs) (hb : Below w.heap.size w w1) : Ch w1 B x cs := by
  obtain ⟨A, c, h1, h2, h3, h4⟩ := h
  exact ⟨A, c, h1, h2, Kd.C_below h3 hb, h4.below hb⟩
theorem Ch0.below {w w1 : World} {x : S25} {cs : List Value} (h : Ch0 w x cs) (hb : Below w.heap.size w w1) : Ch0 w1 x cs := by
  obtain ⟨A, c, h1, h2, h3⟩ := h
  exact ⟨A, c, h1, h2, Kd.C_below h3 hb⟩
theorem C44_blk {w w1 : World} {g n : Nat} {xs : List S44} (h : Kd.C k44 w (some ⟨g, 0, none⟩) n xs) (hg : w1.heap[g]? = w.heap[g]?) : Kd.C k44 w1 (some ⟨g, 0, none⟩) n xs := by
  obtain ⟨h1, h2, h3⟩ := h
  refine ⟨h1, h2, fun hn => ?_⟩
  obtain ⟨a, e, hx⟩ := h3 hn
  injection e with e
  subst e
  refine ⟨_, rfl, fun i p hp => ?_⟩
  obtain ⟨c, q1, q2, q3⟩ := hx i p hp
  refine ⟨c, q1, q2, fun i' u hu => ?_⟩
  rw [← q3 i' u hu]
  exact World.cell?_of_block (by rw [add_block]; exact hg)
/-- What is written to a row of channels touches no holds. -/
theorem Ch.grown {w w1 : World} {B g : Nat} {x : S25} {cs : List Value} {cur : Array Value} (h : Ch w B x cs) (hg : w.grownBy w1 (some g)) (hc : w.heap[g]? = some (.cells cur 25 (0, 0))) : Ch w1 B x cs := by
  obtain ⟨A, c, h1, h2, h3, h4⟩ := h
  rcases h4 with h0 | ⟨g1, c1, cur1, e, hB, hblk, hz⟩
  · exact ⟨A, c, h1, h2, C44_nil h3 (List.length_eq_zero_iff.mp h0), .inl h0⟩
  · injection e with e1 e2 e3
    subst e1 e3
    have hne : g1 ≠ g := blk_ne hblk hc (by decide)
    have hs : w1.heap[g1]? = w.heap[g1]? := hg.block g1 (blk_lt hblk) (by intro e; injection e with e; exact hne e)
    exact ⟨_, _, h1, h2, C44_blk h3 hs, .inr ⟨g1, _, cur1, rfl, hB, hs.trans hblk, hz⟩⟩
theorem Ch.mono {w : World} {B B' : Nat} {x : S25} {cs : List Value} (h : Ch w B x cs) (hB : B' ≤ B) : Ch w B' x cs := by
  obtain ⟨A, c, h1, h2, h3, h4⟩ := h
  refine ⟨A, c, h1, h2, h3, ?_⟩
  rcases h4 with h0 | ⟨g1, c1, cur1, e, hb, hblk, hz⟩
  · exact .inl h0
  · exact .inr ⟨g1, c1, cur1, e, Nat.le_trans hB hb, hblk, hz⟩
theorem ch0_K {w : World} {x : S25} {cs : List Value} (h : Ch0 w x cs) : k25.K w x cs := by
  obtain ⟨A, c, rfl, h2, h3⟩ := h
  exact k25_mk w x h2 h3
theorem K_ch0 {w : World} {x : S25} {cs : List Value} (h : k25.K w x cs) : Ch0 w x cs := by
  obtain ⟨A, c, h1, h2, h3⟩ := k25_open h
  exact ⟨A, c, h1, h2, h3⟩
/-- What was made is read as any row. -/
theorem Own25.reads {w : World} {B : Nat} {v : Value} {xs : List S25} (h : Own25 w B v xs) : ∃ A c, v = .slice A xs.length c ∧ xs.length ≤ c ∧ Kd.C k25 w A xs.length xs := by
  obtain ⟨rows, hR, hl, hx⟩ := h
  obtain ⟨A, c, hv, hc, hC⟩ := Kd.R_reads hR
  rw [hl] at hv hc hC
  refine ⟨A, c, hv, hc, rfl, hC.2.1, fun hn => ?_⟩
  obtain ⟨ad, ea, hcell⟩ := hC.2.2 hn
  refine ⟨ad, ea, fun j p hp => ?_⟩
  obtain ⟨cs, q1, q2⟩ := hx j p hp
  obtain ⟨c', r1, r2, r3⟩ := hcell j cs q1
  have e : c' = cs := r2.1
  subst e
  exact ⟨c', r1, ch0_K q2.read, r3⟩
theorem Own25.below {w w1 : World} {B : Nat} {v : Value} {xs : List S25} (h : Own25 w B v xs) (hb : Below w.heap.size w w1) : Own25 w1 B v xs := by
  obtain ⟨rows, hR, hl, hx⟩ := h
  exact ⟨rows, Kd.R_below hR hb, hl, fun j x hj => by obtain ⟨cs, q1, q2⟩ := hx j x hj; exact ⟨cs, q1, q2.below hb⟩⟩
theorem Own25.lower {w : World} {B B' : Nat} {v : Value} {xs : List S25} (h : Own25 w B v xs) (hB : B' ≤ B) : Own25 w B' v xs := by
  obtain ⟨rows, hR, hl, hx⟩ := h
  exact ⟨rows, Kd.R_lower hR hB, hl, fun j x hj => by obtain ⟨cs, q1, q2⟩ := hx j x hj; exact ⟨cs, q1, q2.mono hB⟩⟩
theorem Own25.nil (w : World) (B : Nat) : Own25 w B (.slice none 0 0) [] := ⟨[], Kd.R_nil _ _ _ _ _, rfl, fun j x hj => by simp at hj⟩
/-- A row's cells, as they are. -/
theorem raw_of_C {w : World} {A : Option Addr} {n : Nat} {xs : List S25} (h : Kd.C k25 w A n xs) : ∃ rows : List (List Value), Kd.C (Kd.raw 7) w A n rows ∧ rows.length = xs.length ∧ ∀ (j : Nat) (x : S25), xs[j]? = some x → ∃ cs, rows[j]? = some cs ∧ Ch0 w x cs := by
  obtain ⟨h1, h2, h3⟩ := h
  rcases Nat.eq_zero_or_pos n with h0 | h0
  · refine ⟨[], ⟨by rw [h0]; rfl, h2, fun hn => absurd hn (by omega)⟩, by rw [h1, h0]; rfl, fun j x hj => ?_⟩
    have : xs = [] := List.length_eq_zero_iff.mp (by omega)
    rw [this] at hj; simp at hj
  · obtain ⟨ad, ea, hx⟩ := h3 h0
    have each : ∀ m, m ≤ n → ∃ rows : List (List Value), rows.length = m ∧ ∀ (j : Nat) (x : S25), j < m → xs[j]? = some x → ∃ cs, rows[j]? = some cs ∧ Ch0 w x cs ∧ cs.length = 7 ∧ (∀ u ∈ cs, u.oneCell' = true) ∧ ∀ i u, cs[i]? = some u → w.cell? (ad.add (j * 7 + i)) = some u := by
      intro m
      induction m with
      | zero => intro _; exact ⟨[], rfl, fun j x hj => by omega⟩
      | succ m ih =>
        intro hm
        obtain ⟨rows, r1, r2⟩ := ih (by omega)
        obtain ⟨p, hp⟩ : ∃ p, xs[m]? = some p := ⟨_, List.getElem?_eq_getElem (by omega)⟩
        obtain ⟨c, q1, q2, q3⟩ := hx m p hp
        refine ⟨rows ++ [c], by rw [List.length_append, r1]; rfl, fun j x hj hxj => ?_⟩
        rcases Nat.lt_or_ge j m with hlt | hge
        · obtain ⟨cs, s1, s2⟩ := r2 j x hlt hxj
          exact ⟨cs, by rw [List.getElem?_append_left (by omega)]; exact s1, s2⟩
        · obtain rfl : j = m := by omega
          rw [hp] at hxj
          injection hxj with hxj
          subst hxj
          refine ⟨c, by rw [List.getElem?_append_right (by omega), r1, Nat.sub_self]; rfl, K_ch0 q2, q1, ?_, q3⟩
          obtain ⟨A', c', e', _, _⟩ := k25_open q2
          subst e'
          intro u hu
          simp at hu
          rcases hu with rfl | rfl | rfl | rfl | rfl | rfl | rfl <;> rfl
    obtain ⟨rows, r1, r2⟩ := each n (Nat.le_refl _)
    refine ⟨rows, ⟨r1, h2, fun _ => ⟨ad, ea, fun j p hp => ?_⟩⟩, by omega, fun j x hj => ?_⟩
    · have hj : j < n := by have := (List.getElem?_eq_some_iff.1 hp).1; omega
      obtain ⟨q, hq⟩ : ∃ q, xs[j]? = some q := ⟨_, List.getElem?_eq_getElem (by omega)⟩
      obtain ⟨cs, s1, s2, s3, s4, s5⟩ := r2 j q hj hq
      rw [hp] at s1
      injection s1 with s1
      subst s1
      exact ⟨p, s3, ⟨rfl, s3, s4⟩, s5⟩
    · have hjn : j < n := by have := (List.getElem?_eq_some_iff.1 hj).1; omega
      obtain ⟨cs, s1, s2, _⟩ := r2 j x hjn hj
      exact ⟨cs, s1, s2⟩
theorem Ch.kept {w w1 : World} {B : Nat} {x : S25} {cs : List Value} {S : Nat → Prop} (h : Ch w B x cs) (hk : Kept w w1 S) (hS : ∀ k, S k → ∃ cur, w.heap[k]? = some (.cells cur 25 (0, 0))) : Ch w1 B x cs := by
  obtain ⟨A, c, h1, h2, h3, h4⟩ := h
  rcases h4 with h0 | ⟨g1, c1, cur1, e, hB, hblk, hz⟩
  · exact ⟨A, c, h1, h2, C44_nil h3 (List.length_eq_zero_iff.mp h0), .inl h0⟩
  · injection e with e1 e2 e3
    subst e1 e3
    have hs : w1.heap[g1]? = w.heap[g1]? := hk.2 g1 (blk_lt hblk) (fun hS1 => by
      obtain ⟨cur, hc⟩ := hS g1 hS1
      exact blk_ne hblk hc (by decide) rfl)
    exact ⟨_, _, h1, h2, C44_blk h3 hs, .inr ⟨g1, _, cur1, rfl, hB, hs.trans hblk, hz⟩⟩
theorem one_raw (w : World) (B : Nat) (cs : List Value) (hl : cs.length = 7) (h1 : ∀ u ∈ cs, u.oneCell' = true) (hB : B ≤ w.heap.size) : Kd.R (Kd.raw 7) 25 (w.alloc (.cells cs.toArray 25)) B (fun k => k = w.heap.size) (.slice (some ⟨w.heap.size, 0, none⟩) 1 1) [cs] := by
  refine ⟨fun k hk => ?_, cs, ⟨?_, .inr ⟨w.heap.size, 1, cs.toArray, rfl, hB, blk_new w _, Nat.le_refl _, by decide, ?_, ?_⟩⟩, ?_, fun j p hp => ?_⟩
  · injection hk with hk; exact hk.symm
  · show cs.length = 1 * 7; omega
  · show cs.length = 1 * 7; omega
  · show cs.take (1 * 7) = cs; exact List.take_of_length_le (by omega)
  · show cs.length = 1 * 7; omega
  · match j with
    | 0 =>
      obtain rfl : cs = p := by simpa using hp
      show ((cs.drop 0).take 7 = cs ∧ _ ∧ _)
      have e : (cs.drop 0).take 7 = cs := by rw [List.drop_zero]; exact List.take_of_length_le (by omega)
      refine ⟨e, ?_, ?_⟩
      · show ((cs.drop 0).take 7).length = 7; rw [e]; exact hl
      · intro u hu
        have : u ∈ (cs.drop 0).take 7 := hu
        rw [e] at this
        exact h1 u this
    | j + 1 => simp at hp
/-- A row of raw cells may be told with its own block alone. -/
theorem raw_ok {w : World} {B : Nat} {ok : Nat → Prop} {v : Value} {rows : List (List Value)} (h : Kd.R (Kd.raw 7) 25 w B ok v rows) : Kd.R (Kd.raw 7) 25 w B (fun k => v.ownBlock = some k) v rows := ⟨fun k hk => hk, h.2⟩
theorem raw_any {w : World} {B : Nat} {ok : Nat → Prop} {v : Value} {rows : List (List Value)} (h : Kd.R (Kd.raw 7) 25 w B ok v rows) : Kd.R (Kd.raw 7) 25 w B (fun _ => True) v rows := Kd.R_mono h (fun _ _ => trivial)
/-- One put in among rows that were made. -/
theorem own25_ins {w w1 : World} {B : Nat} {v0 : Value} {xs : List S25} {rows : List (List Value)} {i : Nat} {x : S25} {cs : List Value} {S ok : Nat → Prop} (hl : rows.length = xs.length) (hx : ∀ (j : Nat) (x : S25), xs[j]? = some x → ∃ cs, rows[j]? = some cs ∧ Ch w B x cs) (hn : Ch w B x cs) (hi : i ≤ xs.length)
    (hR : Kd.R (Kd.raw 7) 25 w1 B ok v0 (rows.take i ++ [cs] ++ rows.drop i)) (hk : Kept w w1 S) (hS : ∀ k, S k → ∃ cur, w.heap[k]? = some (.cells cur 25 (0, 0))) : Own25 w1 B v0 (xs.take i ++ [x] ++ xs.drop i) := by
  refine ⟨_, raw_any hR, by simp only [List.length_append, List.length_take, List.length_drop, List.length_singleton]; omega, fun j y hj => ?_⟩
  have lt : (rows.take i).length = i := by rw [List.length_take]; omega
  have lx : (xs.take i).length = i := by rw [List.length_take]; omega
  rcases Nat.lt_trichotomy j i with h | h | h
  · rw [List.append_assoc, List.getElem?_append_left (by omega), List.getElem?_take_of_lt h] at hj
    obtain ⟨c0, q1, q2⟩ := hx j y hj
    exact ⟨c0, by rw [List.append_assoc, List.getElem?_append_left (by omega), List.getElem?_take_of_lt h]; exact q1, q2.kept hk hS⟩
  · subst h
    rw [List.append_assoc, List.getElem?_append_right (by omega), lx, Nat.sub_self] at hj
    have e : x = y := by simpa using hj
    subst e
    exact ⟨cs, by rw [List.append_assoc, List.getElem?_append_right (by omega), lt, Nat.sub_self]; rfl, hn.kept hk hS⟩
  · rw [List.getElem?_append_right (by rw [List.length_append, lx, List.length_singleton]; omega), List.length_append, lx, List.length_singleton, List.getElem?_drop] at hj
    have e : i + (j - (i + 1)) = j - 1 := by omega
    rw [e] at hj
    obtain ⟨c0, q1, q2⟩ := hx (j - 1) y hj
    refine ⟨c0, ?_, q2.kept hk hS⟩
    rw [List.getElem?_append_right (by rw [List.length_append, lt, List.length_singleton]; omega), List.length_append, lt, List.length_singleton, List.getElem?_drop, e]
    exact q1
/-- Cells of channels that were made, one by one. -/
def Rows25 (w : World) (B : Nat) (xs : List S25) (rows : List (List Value)) : Prop := ∀ (j : Nat) (x : S25), xs[j]? = some x → ∃ cs, rows[j]? = some cs ∧ Ch w B x cs
theorem Rows25.below {w w1 : World} {B : Nat} {xs : List S25} {rows : List (List Value)} (h : Rows25 w B xs rows) (hb : Below w.heap.size w w1) : Rows25 w1 B xs rows := fun j x hj => by
  obtain ⟨cs, q1, q2⟩ := h j x hj
  exact ⟨cs, q1, q2.below hb⟩
/-! Shorter words (sq2.py) -/
theorem aM_ {p : Prop} (h : p) : Aside0 p := ⟨h⟩
theorem oB_ {α β : Type} {x : Option α} {f : α → Option β} {b : β} (h : x.bind f = some b) : ∃ a, x = some a ∧ f a = some b := Option.bind_eq_some_iff.mp h
theorem oD_ {p : Prop} [Decidable p] (h : decide p = true := by first | (with_reducible assumption) | assumption) : p := of_decide_eq_true h
theorem cN_ {w W : World} {a : Addr} {v : Value} (h : Aside0 (Below w.heap.size w W)) (hx : w.cell? a = some v) : W.cell? a = some v := (h.out.cell (World.block_lt_of_cell? w _ hx)).trans hx
theorem bsA_ {w w0 w1 w2 : World} (h0 : Aside0 (Below w.heap.size w w0)) (hb : Below w1.heap.size w1 w2) (hW : Below w.heap.size w w0 → Below w.heap.size w w1 := by intro h; repeat (first | (with_reducible first | exact h | apply below_alloc | apply pw_below_drewN | apply below_drew1 | refine below_set ?_ (Aside0.out (by assumption))) | exact h)) : Aside0 (Below w.heap.size w w2) := ⟨below_step (hW h0.out) hb⟩
theorem bbA_ {w0 w w1 : World} {g : Nat} {o : Obj} (h0 : Aside0 (w0.heap[g]? = some o)) (hb : Below w.heap.size w w1) (hW : w0.heap[g]? = some o → w.heap[g]? = some o := by intro h; (with_reducible repeat (first | refine blk_drewN ?_ _ | refine blk_drew ?_ | refine blk_alloc ?_ _)); exact h) : Aside0 (w1.heap[g]? = some o) := ⟨blk_below (hW h0.out) hb⟩
theorem bp2_ {w : World} {g : Nat} {t : TypeId} {a0 a1 b0 b1 : Value} (h : w.heap[g]? = some (.cells #[a0, a1] t (0, 0))) : ((w.setCell ⟨g, 0, none⟩ b0).setCell ⟨g, 1, none⟩ b1).heap[g]? = some (.cells #[b0, b1] t (0, 0)) := blk_put (blk_put h 0 _ rfl) 1 _ rfl
theorem bp7_ {w : World} {g : Nat} {t : TypeId} {a0 a1 a2 a3 a4 a5 a6 b0 b1 b2 b3 b4 b5 b6 : Value} (h : w.heap[g]? = some (.cells #[a0, a1, a2, a3, a4, a5, a6] t (0, 0))) : (((((((w.setCell ⟨g, 0, none⟩ b0).setCell ⟨g, 1, none⟩ b1).setCell ⟨g, 2, none⟩ b2).setCell ⟨g, 3, none⟩ b3).setCell ⟨g, 4, none⟩ b4).setCell ⟨g, 5, none⟩ b5).setCell ⟨g, 6, none⟩ b6).heap[g]? = some (.cells #[b0, b1, b2, b3, b4, b5, b6] t (0, 0)) := by
  refine blk_put (cs := #[b0, b1, b2, b3, b4, b5, a6]) ?_ 6 _ rfl
  refine blk_put (cs := #[b0, b1, b2, b3, b4, a5, a6]) ?_ 5 _ rfl
  refine blk_put (cs := #[b0, b1, b2, b3, a4, a5, a6]) ?_ 4 _ rfl
  refine blk_put (cs := #[b0, b1, b2, a3, a4, a5, a6]) ?_ 3 _ rfl
  refine blk_put (cs := #[b0, b1, a2, a3, a4, a5, a6]) ?_ 2 _ rfl
  refine blk_put (cs := #[b0, a1, a2, a3, a4, a5, a6]) ?_ 1 _ rfl
  refine blk_put (cs := #[a0, a1, a2, a3, a4, a5, a6]) ?_ 0 _ rfl
  exact h
theorem gL_ {P : Program} {ops : Array Oper} {Q : Exit → Act → World → Prop} {rest : List Oper} {oi : Oper} {a : Act} {w : World} (N : Nat) {f : FuncId} {fn : Func} {as_ : Array Operand} {ts : Array TypeId} (hf : P.funcs[f]? = some fn) (args : Array Value)
  (h : Calls P f args w fun e w' => ∃ v, e = .returned v ∧ wpList P ops Q rest (a.put (some N) v) w') (hd : oi.dst = some N := by exact rfl) (hg : oi.guard = none := by exact rfl) (hname : (fn.name == "runtime.NumGoroutine") = false := by kernel_rfl) (hb : fn.body.isSome = true := by exact rfl)
  (hop : oi.op = .call { callee := .value (.func f), args := as_, argTypes := ts } := by exact rfl) (hargs : as_.map a.eval = args := by (try simp only [List.map_toArray, List.map_cons, List.map_nil]); first | done | rfl | (simp only [List.length_drop, List.length_take]; rfl)) : wpList P ops Q (oi :: rest) a w := goesL_ (some N) hd hg hf hname hb args hop hargs h
end Go.Proofs.Ytcfbcoinbecdfaa.P
