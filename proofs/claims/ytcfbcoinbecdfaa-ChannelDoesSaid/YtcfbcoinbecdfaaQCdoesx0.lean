-- written by a program of this session (wip/print)
import Derived.Test.YtcfbcoinbecdfaaProg
import Derived.Below
import Derived.Deep.Draws
import Derived.Deep.AppendLies
import Derived.Maps.AppendAt
import Derived.OwnWalk
import Derived.Laws.BytesArg
import Derived.Laws.MakeOwn
import Derived.Laws.OwnMore
import Derived.Deep.OwnRows
import Derived.Tactics
import Derived.Lib.ConvBytes
import Derived.Laws.Slices
import Derived.WalkKit
import Derived.KernelRfl
import Derived.RowKit3
import Derived.Deep.LoopGhost
import Derived.Deep.QuietTactic
import Derived.BigQuiet
import Derived.WideLaws
import Derived.Deep.DeepCutAuto
import Derived.Deep.CutBlock
import Derived.Deep.RegionHeld3
import Derived.Laws.Rows
import Derived.Lib.AppendStr
import Derived.ArgAppend
import Derived.Laws.IdiomCopy
import Derived.OrdersHeld
import Derived.Laws.BitsLemmas
import Derived.RowKit
import Derived.Test.YtcfbcoinbecdfaaVCd0
namespace Go.Proofs.Ytcfbcoinbecdfaa.P
open Go.RowKit Go.Proofs.YtcfbcoinbecdfaaW.PrintWords Go.Proofs.YtcfbcoinbecdfaaW.PrintLast Go.Proofs.YtcfbcoinbecdfaaW.PrintMore
attribute [local go_sem] max2_int min2_int max_two min_two max_three min_three max_four min_four run_sub64_   -- for this text's walks alone
set_option linter.unusedVariables false
set_option linter.unusedSimpArgs false



def errW : Option Int → Value
  | none => .nilIface
  | some c => .iface 0 (.int .i64 c)
theorem errW_none : errW none = .nilIface := rfl
theorem errW_some (c : Int) : errW (some c) = .iface 0 (.int .i64 c) := rfl

theorem info22 : (Try.prog.info? 22).map (fun i => (i.zero, i.size, i.bytes)) = some (some (.int .u64 0), 1, 8) := by kernel_rfl
theorem info44 : (Try.prog.info? 44).map (fun i => (i.zero, i.size, i.bytes)) = some (some (.agg #[(.int .u64 0), (.int .u64 0)]), 2, 16) := by kernel_rfl
-- the values' own types
/-! #### struct type 44 -/
structure S44 where
  f0 : Int
  f1 : Int
def z44 : S44 := ⟨(0 : Int), (0 : Int)⟩
def k44 : Kd S44 := Kd.iso (Kd.pair (Kd.int .u64) (Kd.int .u64)) (fun x : S44 => (x.f0, x.f1))
theorem k44_open {w : World} {x : S44} {cs : List Value} (h : k44.K w x cs) : cs = [.int .u64 x.f0, .int .u64 x.f1] := by
  obtain ⟨_, _, rfl, rfl, rfl⟩ := h
  exact rfl
theorem k44_openM {w : World} {base : Nat} {ok : Nat → Prop} {x : S44} {cs : List Value} (h : k44.M w base ok x cs) : cs = [.int .u64 x.f0, .int .u64 x.f1] := by
  obtain ⟨_, _, rfl, rfl, rfl⟩ := h
  exact rfl
theorem k44_mk (w : World) (x : S44)  : k44.K w x [.int .u64 x.f0, .int .u64 x.f1] := ⟨[.int .u64 x.f0], [.int .u64 x.f1], rfl, rfl, rfl⟩
theorem k44_mkM (w : World) (base : Nat) (ok : Nat → Prop) (x : S44)  : k44.M w base ok x [.int .u64 x.f0, .int .u64 x.f1] := ⟨[.int .u64 x.f0], [.int .u64 x.f1], rfl, rfl, rfl⟩
def rd_T44 (xs : List S44) (i : Int) : S44 := xs.getD i.toNat z44
theorem at_T44 {w : World} {A : Option Addr} {n : Nat} {xs : List S44} (h : Kd.C k44 w A n xs) (i : Int) (h0 : 0 ≤ i) (h1 : i < n) : ∃ ad , A = some ad ∧ w.cell? (ad.add (i.toNat * 2)) = some (.int .u64 (rd_T44 xs i).f0) ∧ w.cell? ⟨(ad.add (i.toNat * 2)).block, (ad.add (i.toNat * 2)).off + 1, none⟩ = some (.int .u64 (rd_T44 xs i).f1) := by
  obtain ⟨ad, c, e, _, hK, hc0⟩ := Kd.C_get h z44 i h0 h1
  have hc : ∀ j u, c[j]? = some u → w.cell? (ad.add (i.toNat * 2 + j)) = some u := hc0
  obtain rfl := k44_open hK
  exact ⟨ad, e, hc 0 _ rfl, by rw [← add_field _ _ 1 (by omega)]; exact hc 1 _ rfl⟩

def rd_L2 (xs : List (List S44)) (i : Int) : (List S44) := xs.getD i.toNat ([] : List S44)
theorem at_L2 {w : World} {A : Option Addr} {n : Nat} {xs : List (List S44)} (h : Kd.C (Kd.slice 44 k44) w A n xs) (i : Int) (h0 : 0 ≤ i) (h1 : i < n) : ∃ ad A0 c0, A = some ad ∧ w.cell? (ad.add i.toNat) = some (.slice A0 (rd_L2 xs i).length c0) ∧ (rd_L2 xs i).length ≤ c0 ∧ k44.C w A0 (rd_L2 xs i).length (rd_L2 xs i) := by
  obtain ⟨ad, c, e, _, hK, hc0⟩ := Kd.C_get h ([] : List S44) i h0 h1
  have hc : ∀ j u, c[j]? = some u → w.cell? (ad.add (i.toNat * 1 + j)) = some u := hc0
  obtain ⟨A0, c0, rfl, l0, g0⟩ := hK
  exact ⟨ad, A0, c0, e, by have hq := hc 0 _ rfl; rwa [Nat.mul_one, Nat.add_zero] at hq, l0, g0⟩

/-! #### struct type 25 -/
structure S25 where
  f0 : Int
  f1 : Int
  f2 : Int
  f3 : Int
  f4 : Int
  f5 : (List S44)
  f6 : Bool
def z25 : S25 := ⟨(0 : Int), (0 : Int), (0 : Int), (0 : Int), (0 : Int), ([] : List S44), false⟩
def k25 : Kd S25 := Kd.iso (Kd.pair (Kd.int .u64) (Kd.pair (Kd.int .u64) (Kd.pair (Kd.int .u64) (Kd.pair (Kd.int .u64) (Kd.pair (Kd.int .u64) (Kd.pair (Kd.slice 44 k44) Kd.bool)))))) (fun x : S25 => (x.f0, x.f1, x.f2, x.f3, x.f4, x.f5, x.f6))
theorem k25_open {w : World} {x : S25} {cs : List Value} (h : k25.K w x cs) : ∃ A5 c5, cs = [.int .u64 x.f0, .int .u64 x.f1, .int .u64 x.f2, .int .u64 x.f3, .int .u64 x.f4, .slice A5 x.f5.length c5, .bool x.f6] ∧ x.f5.length ≤ c5 ∧ k44.C w A5 x.f5.length x.f5 := by
  obtain ⟨_, _, rfl, rfl, ⟨_, _, rfl, rfl, ⟨_, _, rfl, rfl, ⟨_, _, rfl, rfl, ⟨_, _, rfl, rfl, ⟨_, _, rfl, ⟨A5, c5, rfl, l5, g5⟩, rfl⟩⟩⟩⟩⟩⟩ := h
  exact ⟨A5, c5, rfl, l5, g5⟩
theorem k25_openM {w : World} {base : Nat} {ok : Nat → Prop} {x : S25} {cs : List Value} (h : k25.M w base ok x cs) : ∃ v5, cs = [.int .u64 x.f0, .int .u64 x.f1, .int .u64 x.f2, .int .u64 x.f3, .int .u64 x.f4, v5, .bool x.f6] ∧ k44.R 44 w base ok v5 x.f5 := by
  obtain ⟨_, _, rfl, rfl, ⟨_, _, rfl, rfl, ⟨_, _, rfl, rfl, ⟨_, _, rfl, rfl, ⟨_, _, rfl, rfl, ⟨_, _, rfl, ⟨v5, rfl, g5⟩, rfl⟩⟩⟩⟩⟩⟩ := h
  exact ⟨v5, rfl, g5⟩
theorem k25_mk (w : World) (x : S25) {A5 : Option Addr} {c5 : Nat} (l5 : x.f5.length ≤ c5) (g5 : k44.C w A5 x.f5.length x.f5) : k25.K w x [.int .u64 x.f0, .int .u64 x.f1, .int .u64 x.f2, .int .u64 x.f3, .int .u64 x.f4, .slice A5 x.f5.length c5, .bool x.f6] := ⟨[.int .u64 x.f0], [.int .u64 x.f1, .int .u64 x.f2, .int .u64 x.f3, .int .u64 x.f4, .slice A5 x.f5.length c5, .bool x.f6], rfl, rfl, ⟨[.int .u64 x.f1], [.int .u64 x.f2, .int .u64 x.f3, .int .u64 x.f4, .slice A5 x.f5.length c5, .bool x.f6], rfl, rfl, ⟨[.int .u64 x.f2], [.int .u64 x.f3, .int .u64 x.f4, .slice A5 x.f5.length c5, .bool x.f6], rfl, rfl, ⟨[.int .u64 x.f3], [.int .u64 x.f4, .slice A5 x.f5.length c5, .bool x.f6], rfl, rfl, ⟨[.int .u64 x.f4], [.slice A5 x.f5.length c5, .bool x.f6], rfl, rfl, ⟨[.slice A5 x.f5.length c5], [.bool x.f6], rfl, ⟨A5, c5, rfl, l5, g5⟩, rfl⟩⟩⟩⟩⟩⟩
theorem k25_mkM (w : World) (base : Nat) (ok : Nat → Prop) (x : S25) {v5 : Value} (g5 : k44.R 44 w base ok v5 x.f5) : k25.M w base ok x [.int .u64 x.f0, .int .u64 x.f1, .int .u64 x.f2, .int .u64 x.f3, .int .u64 x.f4, v5, .bool x.f6] := ⟨[.int .u64 x.f0], [.int .u64 x.f1, .int .u64 x.f2, .int .u64 x.f3, .int .u64 x.f4, v5, .bool x.f6], rfl, rfl, ⟨[.int .u64 x.f1], [.int .u64 x.f2, .int .u64 x.f3, .int .u64 x.f4, v5, .bool x.f6], rfl, rfl, ⟨[.int .u64 x.f2], [.int .u64 x.f3, .int .u64 x.f4, v5, .bool x.f6], rfl, rfl, ⟨[.int .u64 x.f3], [.int .u64 x.f4, v5, .bool x.f6], rfl, rfl, ⟨[.int .u64 x.f4], [v5, .bool x.f6], rfl, rfl, ⟨[v5], [.bool x.f6], rfl, ⟨v5, rfl, g5⟩, rfl⟩⟩⟩⟩⟩⟩
def rd_T25 (xs : List S25) (i : Int) : S25 := xs.getD i.toNat z25
theorem at_T25 {w : World} {A : Option Addr} {n : Nat} {xs : List S25} (h : Kd.C k25 w A n xs) (i : Int) (h0 : 0 ≤ i) (h1 : i < n) : ∃ ad A5 c5, A = some ad ∧ w.cell? (ad.add (i.toNat * 7)) = some (.int .u64 (rd_T25 xs i).f0) ∧ w.cell? ⟨(ad.add (i.toNat * 7)).block, (ad.add (i.toNat * 7)).off + 1, none⟩ = some (.int .u64 (rd_T25 xs i).f1) ∧ w.cell? ⟨(ad.add (i.toNat * 7)).block, (ad.add (i.toNat * 7)).off + 2, none⟩ = some (.int .u64 (rd_T25 xs i).f2) ∧ w.cell? ⟨(ad.add (i.toNat * 7)).block, (ad.add (i.toNat * 7)).off + 3, none⟩ = some (.int .u64 (rd_T25 xs i).f3) ∧ w.cell? ⟨(ad.add (i.toNat * 7)).block, (ad.add (i.toNat * 7)).off + 4, none⟩ = some (.int .u64 (rd_T25 xs i).f4) ∧ w.cell? ⟨(ad.add (i.toNat * 7)).block, (ad.add (i.toNat * 7)).off + 5, none⟩ = some (.slice A5 (rd_T25 xs i).f5.length c5) ∧ w.cell? ⟨(ad.add (i.toNat * 7)).block, (ad.add (i.toNat * 7)).off + 6, none⟩ = some (.bool (rd_T25 xs i).f6) ∧ (rd_T25 xs i).f5.length ≤ c5 ∧ k44.C w A5 (rd_T25 xs i).f5.length (rd_T25 xs i).f5 := by
  obtain ⟨ad, c, e, _, hK, hc0⟩ := Kd.C_get h z25 i h0 h1
  have hc : ∀ j u, c[j]? = some u → w.cell? (ad.add (i.toNat * 7 + j)) = some u := hc0
  obtain ⟨A5, c5, rfl, l5, g5⟩ := k25_open hK
  exact ⟨ad, A5, c5, e, hc 0 _ rfl, by rw [← add_field _ _ 1 (by omega)]; exact hc 1 _ rfl, by rw [← add_field _ _ 2 (by omega)]; exact hc 2 _ rfl, by rw [← add_field _ _ 3 (by omega)]; exact hc 3 _ rfl, by rw [← add_field _ _ 4 (by omega)]; exact hc 4 _ rfl, by rw [← add_field _ _ 5 (by omega)]; exact hc 5 _ rfl, by rw [← add_field _ _ 6 (by omega)]; exact hc 6 _ rfl, l5, g5⟩

theorem moves44 : Moves k44 := moves_iso _ (moves_pair (moves_scalar _ _) (moves_scalar _ _))
def G44 (x : S44) : Prop := (Lit.int .u64 x.f0).wf = true ∧ (Lit.int .u64 x.f1).wf = true
theorem opens44 : Opens Try.prog k44 44 G44 := opens_iso (fun x : S44 => (x.f0, x.f1)) (fun p => ⟨p.1, p.2⟩) (fun _ => rfl) (opens_struct Try.underlying44 (by kernel_rfl) (opensF_cons rfl (by kernel_rfl) (opens_int Try.underlying22) (opensF_one rfl (by kernel_rfl) (opens_int Try.underlying22))))
theorem moves25 : Moves k25 := moves_iso _ (moves_pair (moves_scalar _ _) (moves_pair (moves_scalar _ _) (moves_pair (moves_scalar _ _) (moves_pair (moves_scalar _ _) (moves_pair (moves_scalar _ _) (moves_pair (moves_slice _ moves44) (moves_scalar _ _)))))))
def G25 (x : S25) : Prop := (Lit.int .u64 x.f0).wf = true ∧ (Lit.int .u64 x.f1).wf = true ∧ (Lit.int .u64 x.f2).wf = true ∧ (Lit.int .u64 x.f3).wf = true ∧ (Lit.int .u64 x.f4).wf = true ∧ (x.f5.length ≤ 9223372036854775807 ∧ ∀ y_ ∈ x.f5, G44 y_) ∧ True
theorem opens25 : Opens Try.prog k25 25 G25 := opens_iso (fun x : S25 => (x.f0, x.f1, x.f2, x.f3, x.f4, x.f5, x.f6)) (fun p => ⟨p.1, p.2.1, p.2.2.1, p.2.2.2.1, p.2.2.2.2.1, p.2.2.2.2.2.1, p.2.2.2.2.2.2⟩) (fun _ => rfl) (opens_struct Try.underlying25 (by kernel_rfl) (opensF_cons rfl (by kernel_rfl) (opens_int Try.underlying22) (opensF_cons rfl (by kernel_rfl) (opens_int Try.underlying22) (opensF_cons rfl (by kernel_rfl) (opens_int Try.underlying22) (opensF_cons rfl (by kernel_rfl) (opens_int Try.underlying22) (opensF_cons rfl (by kernel_rfl) (opens_int Try.underlying22) (opensF_cons rfl (by kernel_rfl) (opens_slice Try.underlying23 (by kernel_rfl) opens44) (opensF_one rfl (by kernel_rfl) (opens_bool Try.underlying4)))))))))
/-- Where a row lies is not in the block g. -/
def Away (g : Nat) (A : Option Addr) : Prop := ∀ a, A = some a → a.block ≠ g
theorem add_block (a : Addr) (j : Nat) : (a.add j).block = a.block := by unfold Addr.add; split <;> rfl
theorem C44_put {w : World} {A : Option Addr} {n : Nat} {xs : List S44} (h : Kd.C k44 w A n xs) {g : Nat} (ha : Away g A) (j : Nat) (v : Value) : Kd.C k44 (w.setCell ⟨g, j, none⟩ v) A n xs := by
  obtain ⟨h1, h2, h3⟩ := h
  refine ⟨h1, h2, fun hn => ?_⟩
  obtain ⟨a, e, hx⟩ := h3 hn
  refine ⟨a, e, fun i p hp => ?_⟩
  obtain ⟨c, q1, q2, q3⟩ := hx i p hp
  exact ⟨c, q1, q2, fun i' u hu => (cell_far (by rw [add_block]; exact ha a e) v).trans (q3 i' u hu)⟩
theorem R44_away {w : World} {base : Nat} {ok : Nat → Prop} {A : Option Addr} {n c : Nat} {xs : List S44} (h : Kd.R k44 44 w base ok (.slice A n c) xs) {g : Nat} (hg : g < base) : Away g A := by
  obtain ⟨hb0, in0, hown0, hr0⟩ := h
  rcases hown0 with ⟨hl0, ⟨e, h0⟩ | ⟨g1, cap, cur, e, hgb, _⟩⟩
  · injection e with e1
    subst e1
    intro a h; cases h
  · injection e with e1
    subst e1
    intro a h
    injection h with h
    subst h
    show g1 ≠ g
    omega
theorem C_away {w : World} {A : Option Addr} {n : Nat} {xs : List S44} (h : Kd.C k44 w A n xs) : xs = [] ∨ Away w.heap.size A := by
  rcases Nat.eq_zero_or_pos n with h0 | h0
  · left
    have := h.1
    cases xs with
    | nil => rfl
    | cons x xs => simp at this; omega
  · right
    obtain ⟨a, e, hx⟩ := h.2.2 h0
    intro a' e'
    rw [e] at e'
    injection e' with e'
    subst e'
    have hl := h.1
    obtain ⟨p, hp⟩ : ∃ p, xs[0]? = some p := ⟨_, List.getElem?_eq_getElem (by omega)⟩
    obtain ⟨c, q1, q2, q3⟩ := hx 0 p hp
    have hc : 0 < c.length := by rw [q1]; decide
    have := World.block_lt_of_cell? w _ (q3 0 _ (List.getElem?_eq_getElem hc))
    rw [add_block] at this
    omega
/-- A whole channel is stored. -/
def put7 (w : World) (g : Nat) (c : S25) (v : Value) : World := ((((((w.setCell ⟨g, 0, none⟩ (.int .u64 c.f0)).setCell ⟨g, 1, none⟩ (.int .u64 c.f1)).setCell ⟨g, 2, none⟩ (.int .u64 c.f2)).setCell ⟨g, 3, none⟩ (.int .u64 c.f3)).setCell ⟨g, 4, none⟩ (.int .u64 c.f4)).setCell ⟨g, 5, none⟩ v).setCell ⟨g, 6, none⟩ (.bool c.f6)
theorem put7_below {B : Nat} {w0 w : World} {g : Nat} {c : S25} {v : Value} (h : Below B w0 w) (hg : B ≤ g) : Below B w0 (put7 w g c v) := by
  unfold put7
  exact ((((((h.setCell hg _).setCell hg _).setCell hg _).setCell hg _).setCell hg _).setCell hg _).setCell hg _
theorem put7_far {w : World} {g g' : Nat} {c : S25} {v : Value} {cs : Array Value} {t : TypeId} (h : w.heap[g']? = some (.cells cs t (0, 0))) (hne : g' ≠ g) : (put7 w g c v).heap[g']? = some (.cells cs t (0, 0)) := by
  unfold put7
  exact blk_far (blk_far (blk_far (blk_far (blk_far (blk_far (blk_far h hne _) hne _) hne _) hne _) hne _) hne _) hne _
theorem put7_self {w : World} {g : Nat} {c : S25} {v a0 a1 a2 a3 a4 a5 a6 : Value} {t : TypeId} (h : w.heap[g]? = some (.cells #[a0, a1, a2, a3, a4, a5, a6] t (0, 0))) : (put7 w g c v).heap[g]? = some (.cells #[.int .u64 c.f0, .int .u64 c.f1, .int .u64 c.f2, .int .u64 c.f3, .int .u64 c.f4, v, .bool c.f6] t (0, 0)) := by
  unfold put7
  have h7 := blk_set (blk_set (blk_set (blk_set (blk_set (blk_set (blk_set h 0 (.int .u64 c.f0)) 1 (.int .u64 c.f1)) 2 (.int .u64 c.f2)) 3 (.int .u64 c.f3)) 4 (.int .u64 c.f4)) 5 v) 6 (.bool c.f6)
  simp only [List.setIfInBounds_toArray, List.set_cons_zero, List.set_cons_succ] at h7
  exact h7
theorem C44_nil {w w' : World} {A : Option Addr} {xs : List S44} (h : Kd.C k44 w A xs.length xs) (h0 : xs = []) : Kd.C k44 w' A xs.length xs := by
  subst h0
  exact ⟨rfl, h.2.1, fun hn => absurd hn (Nat.lt_irrefl 0)⟩
theorem put7_C {w : World} {g : Nat} {c : S25} {v : Value} {A : Option Addr} {n : Nat} {xs : List S44} (h : Kd.C k44 w A n xs) (ha : Away g A) : Kd.C k44 (put7 w g c v) A n xs := by
  unfold put7
  exact C44_put (C44_put (C44_put (C44_put (C44_put (C44_put (C44_put h ha _ _) ha _ _) ha _ _) ha _ _) ha _ _) ha _ _) ha _ _
theorem put7_C' {w : World} {g : Nat} {c : S25} {v : Value} {A : Option Addr} {xs : List S44} (h : Kd.C k44 w A xs.length xs) (ha : xs = [] ∨ Away g A) : Kd.C k44 (put7 w g c v) A xs.length xs := by
  rcases ha with h0 | ha
  · exact C44_nil h h0
  · exact put7_C h ha
theorem rd_mem9 {l : List Int} {i : Nat} (h : i < l.length) : rd l (i : Int) ∈ l := by
  simp only [rd, Int.toNat_natCast, List.getD_eq_getElem?_getD, List.getElem?_eq_getElem h, Option.getD_some]
  exact List.getElem_mem h
/-- A row of holds that may be written to. -/
def Row44 (w : World) (B : Nat) (v : Value) (n : Nat) : Prop := n = 0 ∨ ∃ g c cur, v = .slice (some ⟨g, 0, none⟩) n c ∧ B ≤ g ∧ w.heap[g]? = some (.cells cur 44 (0, 0)) ∧ ∀ i, i < n → ∃ z : Int, cur[i * 2 + 1]? = some (.int .u64 z)
theorem row44_of_R {w : World} {base B : Nat} {ok : Nat → Prop} {v : Value} {xs : List S44} (h : Kd.R k44 44 w base ok v xs) (hB : B ≤ base) : Row44 w B v xs.length := by
  rcases Nat.eq_zero_or_pos xs.length with h0 | h0
  · exact .inl h0
  · obtain ⟨g, cap, rfl, hbg, hgl, cells, hblk⟩ := Kd.R_form h h0
    refine .inr ⟨g, cap, cells, rfl, Nat.le_trans hB hbg, hblk, fun i hi => ?_⟩
    obtain ⟨ad, e, q0, q1⟩ := at_T44 (Kd.R_reads' h).2.2 (i : Int) (by omega) (by omega)
    injection e with e
    subst e
    rw [Int.toNat_natCast, add_plain] at q1
    exact ⟨_, (blk_cell hblk _).symm.trans q1⟩
theorem Row44.below {w w1 : World} {B : Nat} {v : Value} {n : Nat} (h : Row44 w B v n) (hb : Below w.heap.size w w1) : Row44 w1 B v n := by
  rcases h with h | ⟨g, c, cur, hv, hg, hblk, hz⟩
  · exact .inl h
  · exact .inr ⟨g, c, cur, hv, hg, blk_below hblk hb, hz⟩
theorem Row44.put {w : World} {B : Nat} {v : Value} {n : Nat} (h : Row44 w B v n) {g : Nat} {cur : Array Value} (hc : w.heap[g]? = some (.cells cur 44 (0, 0))) (j : Nat) (z : Int) : Row44 (w.setCell ⟨g, j, none⟩ (.int .u64 z)) B v n := by
  rcases h with h | ⟨g1, c, cur1, hv, hg, hblk, hz⟩
  · exact .inl h
  · by_cases e : g1 = g
    · subst e
      rw [hblk] at hc
      injection hc with hc
      injection hc with hc
      subst hc
      refine .inr ⟨g1, c, _, hv, hg, blk_set hblk j _, fun i hi => ?_⟩
      obtain ⟨z1, hz1⟩ := hz i hi
      by_cases ej : j = i * 2 + 1
      · subst ej
        have hlt := (Array.getElem?_eq_some_iff.1 hz1).1
        exact ⟨z, by rw [Array.getElem?_setIfInBounds, if_pos rfl, if_pos hlt]⟩
      · exact ⟨z1, by rw [Array.getElem?_setIfInBounds, if_neg ej]; exact hz1⟩
    · exact .inr ⟨g1, c, cur1, hv, hg, blk_far hblk e _, hz⟩
/-- What stays while the rows that were made are written to. -/
structure InvC (wb : World) (va : Value) (na : Nat) (vu : Value) (nu : Nat) (wr : World) : Prop where
  bel : Below wb.heap.size wb wr
  a : Row44 wr wb.heap.size va na
  u : Row44 wr wb.heap.size vu nu
theorem InvC.put {wb : World} {va : Value} {na : Nat} {vu : Value} {nu : Nat} {wr : World} (h : InvC wb va na vu nu wr) {g : Nat} {cur : Array Value} (hc : wr.heap[g]? = some (.cells cur 44 (0, 0))) (hg : wb.heap.size ≤ g) (j : Nat) (z : Int) : InvC wb va na vu nu (wr.setCell ⟨g, j, none⟩ (.int .u64 z)) :=
  ⟨h.bel.setCell hg _, h.a.put hc j z, h.u.put hc j z⟩
def pk7 (r : Int × Int × Int × Int × Int × List S44 × Bool) : S25 := ⟨r.1, r.2.1, r.2.2.1, r.2.2.2.1, r.2.2.2.2.1, r.2.2.2.2.2.1, r.2.2.2.2.2.2⟩
def pk8 (r : Int × Int × Int × Int × Int × List S44 × Bool × Int) : S25 × Int := (⟨r.1, r.2.1, r.2.2.1, r.2.2.2.1, r.2.2.2.2.1, r.2.2.2.2.2.1, r.2.2.2.2.2.2.1⟩, r.2.2.2.2.2.2.2)
def pk9 (r : Int × Int × Int × Int × Int × List S44 × Bool × Int × Int) : S25 × Int × Int := (⟨r.1, r.2.1, r.2.2.1, r.2.2.2.1, r.2.2.2.2.1, r.2.2.2.2.2.1, r.2.2.2.2.2.2.1⟩, r.2.2.2.2.2.2.2.1, r.2.2.2.2.2.2.2.2)
theorem map7 {o : Option (Int × Int × Int × Int × Int × List S44 × Bool)} {a : S25} (h : (o.bind fun r => some (pk7 r)) = some a) : o = some (a.f0, a.f1, a.f2, a.f3, a.f4, a.f5, a.f6) := by
  obtain ⟨r, h1, h2⟩ := Option.bind_eq_some_iff.mp h
  rw [h1]
  injection h2 with h2
  subst h2
  rfl
theorem map8 {o : Option (Int × Int × Int × Int × Int × List S44 × Bool × Int)} {a : S25} {e : Int} (h : (o.bind fun r => some (pk8 r)) = some (a, e)) : o = some (a.f0, a.f1, a.f2, a.f3, a.f4, a.f5, a.f6, e) := by
  obtain ⟨r, h1, h2⟩ := Option.bind_eq_some_iff.mp h
  rw [h1]
  injection h2 with h2
  injection h2 with h2 h3
  subst h2 h3
  rfl
theorem map9 {o : Option (Int × Int × Int × Int × Int × List S44 × Bool × Int × Int)} {a : S25} {n e : Int} (h : (o.bind fun r => some (pk9 r)) = some (a, n, e)) : o = some (a.f0, a.f1, a.f2, a.f3, a.f4, a.f5, a.f6, n, e) := by
  obtain ⟨r, h1, h2⟩ := Option.bind_eq_some_iff.mp h
  rw [h1]
  injection h2 with h2
  injection h2 with h2 h3
  injection h3 with h3 h4
  subst h2 h3 h4
  rfl
theorem blk_new2 (w : World) (o o2 : Obj) : ((w.alloc o).alloc o2).heap[w.heap.size + 1]? = some o2 := by
  have h := blk_new (w.alloc o) o2
  have e : (w.alloc o).heap.size = w.heap.size + 1 := by simp
  rw [e] at h
  exact h
theorem blk_low {B g : Nat} {w w1 : World} {o : Obj} (h : w.heap[g]? = some o) (hb : Below B w w1) (hg : g < B) : w1.heap[g]? = some o := (hb.block g hg).trans h
theorem put7_R {w : World} {g base : Nat} {c : S25} {v u : Value} {ok : Nat → Prop} {xs : List S44} (h : Kd.R k44 44 w base ok u xs) (hok : ∀ k, ok k → k ≠ g) : Kd.R k44 44 (put7 w g c v) base ok u xs := by
  unfold put7
  exact Kd.R_far (p := ⟨g, 6, none⟩) (Kd.R_far (p := ⟨g, 5, none⟩) (Kd.R_far (p := ⟨g, 4, none⟩) (Kd.R_far (p := ⟨g, 3, none⟩) (Kd.R_far (p := ⟨g, 2, none⟩) (Kd.R_far (p := ⟨g, 1, none⟩) (Kd.R_far (p := ⟨g, 0, none⟩) h hok _) hok _) hok _) hok _) hok _) hok _) hok _
theorem box5 {w : World} {g : Nat} {t : TypeId} {a0 a1 a2 a3 a4 a5 a6 : Value} (h : w.heap[g]? = some (.cells #[a0, a1, a2, a3, a4, a5, a6] t (0, 0))) (v : Value) : (w.setCell ⟨g, 5, none⟩ v).heap[g]? = some (.cells #[a0, a1, a2, a3, a4, v, a6] t (0, 0)) := by
  have h7 := blk_set h 5 v
  simp only [List.setIfInBounds_toArray, List.set_cons_zero, List.set_cons_succ] at h7
  exact h7
theorem box1 {w : World} {g : Nat} {t : TypeId} {a0 a1 a2 a3 a4 a5 a6 : Value} (h : w.heap[g]? = some (.cells #[a0, a1, a2, a3, a4, a5, a6] t (0, 0))) (v : Value) : (w.setCell ⟨g, 1, none⟩ v).heap[g]? = some (.cells #[a0, v, a2, a3, a4, a5, a6] t (0, 0)) := by
  have h7 := blk_set h 1 v
  simp only [List.setIfInBounds_toArray, List.set_cons_zero, List.set_cons_succ] at h7
  exact h7
theorem drop44 {l : List S44} {i : Nat} (h : i < l.length) : l.drop i = rd_T44 l (i : Int) :: l.drop (i + 1) := by
  rw [List.drop_eq_getElem_cons h]
  simp only [rd_T44, Int.toNat_natCast, List.getD_eq_getElem?_getD, List.getElem?_eq_getElem h, Option.getD_some]
theorem take44 {l : List S44} {i : Nat} (h : i < l.length) : l.take (i + 1) = l.take i ++ [rd_T44 l (i : Int)] := by
  rw [List.take_succ_eq_append_getElem h]
  simp only [rd_T44, Int.toNat_natCast, List.getD_eq_getElem?_getD, List.getElem?_eq_getElem h, Option.getD_some]
theorem filter_take44 {l : List S44} {i : Nat} (p : S44 → Bool) (h : i < l.length) : (l.take (i + 1)).filter p = (l.take i).filter p ++ (if p (rd_T44 l (i : Int)) = true then [rd_T44 l (i : Int)] else []) := by
  rw [take44 h, List.filter_append]
  congr 1
  by_cases q : p (rd_T44 l (i : Int)) = true
  · rw [if_pos q, List.filter_cons_of_pos q]; rfl
  · rw [if_neg q, List.filter_cons_of_neg q]; rfl
theorem zero7_self {w : World} {g : Nat} {a0 a1 a2 a3 a4 a5 a6 : Value} {t : TypeId} (h : w.heap[g]? = some (.cells #[a0, a1, a2, a3, a4, a5, a6] t (0, 0))) : (((((((w.setCell ⟨g, 0, none⟩ (.int .u64 0)).setCell ⟨g, 1, none⟩ (.int .u64 0)).setCell ⟨g, 2, none⟩ (.int .u64 0)).setCell ⟨g, 3, none⟩ (.int .u64 0)).setCell ⟨g, 4, none⟩ (.int .u64 0)).setCell ⟨g, 5, none⟩ (.slice none 0 0)).setCell ⟨g, 6, none⟩ (.bool false)).heap[g]? = some (.cells #[.int .u64 0, .int .u64 0, .int .u64 0, .int .u64 0, .int .u64 0, .slice none 0 0, .bool false] t (0, 0)) := by
  have h7 := blk_set (blk_set (blk_set (blk_set (blk_set (blk_set (blk_set h 0 (.int .u64 0)) 1 (.int .u64 0)) 2 (.int .u64 0)) 3 (.int .u64 0)) 4 (.int .u64 0)) 5 (.slice none 0 0)) 6 (.bool false)
  simp only [List.setIfInBounds_toArray, List.set_cons_zero, List.set_cons_succ] at h7
  exact h7
theorem zero7_below {B : Nat} {w0 w : World} {g : Nat} (h : Below B w0 w) (hg : B ≤ g) : Below B w0 (((((((w.setCell ⟨g, 0, none⟩ (.int .u64 0)).setCell ⟨g, 1, none⟩ (.int .u64 0)).setCell ⟨g, 2, none⟩ (.int .u64 0)).setCell ⟨g, 3, none⟩ (.int .u64 0)).setCell ⟨g, 4, none⟩ (.int .u64 0)).setCell ⟨g, 5, none⟩ (.slice none 0 0)).setCell ⟨g, 6, none⟩ (.bool false)) := ((((((h.setCell hg _).setCell hg _).setCell hg _).setCell hg _).setCell hg _).setCell hg _).setCell hg _
end Go.Proofs.Ytcfbcoinbecdfaa.P
