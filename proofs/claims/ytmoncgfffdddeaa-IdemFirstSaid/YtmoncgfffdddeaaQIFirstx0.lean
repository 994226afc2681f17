-- written by a program of this session (wip/print)
import Derived.Test.YtmoncgfffdddeaaProg
import Derived.Below
import Derived.Deep.Draws
import Derived.Deep.AppendLies
import Derived.Maps.AppendAt
import Derived.OwnWalk
import Derived.Laws.BytesArg
import Derived.Laws.MakeOwn
import Derived.Laws.OwnMore
import Derived.Deep.OwnRows
import Derived.Tactics
import Derived.Lib.ConvBytes
import Derived.Laws.Slices
import Derived.WalkKit
import Derived.KernelRfl
import Derived.RowKit3
import Derived.Deep.LoopGhost
import Derived.Deep.QuietTactic
import Derived.BigQuiet
import Derived.WideLaws
import Derived.Deep.DeepCutAuto
import Derived.Deep.CutBlock
import Derived.Deep.RegionHeld3
import Derived.Laws.Rows
import Derived.Lib.AppendStr
import Derived.ArgAppend
import Derived.Laws.IdiomCopy
import Derived.OrdersHeld
import Derived.Laws.BitsLemmas
import Derived.RowKit
import Derived.RangeFuncNested
import Derived.RangeFuncBound
import Derived.RangeFuncCalls
import Derived.RangeFuncLeaves
import Derived.RangeFuncBox
import Derived.OrdersIn
import Derived.OwnWalkIn
import Derived.TacticsInMore
import Derived.LoopNIn
import Derived.LoopIn
import Derived.Lib.SlBytesConst
import Derived.Test.YtmoncgfffdddeaaO
import Derived.Test.YtmoncgfffdddeaaWWords
import Derived.Test.YtmoncgfffdddeaaWLast
import Derived.Test.YtmoncgfffdddeaaWTab
import Derived.Test.YtmoncgfffdddeaaWFour
import Derived.Test.YtmoncgfffdddeaaWQPut
import Derived.Test.YtmoncgfffdddeaaWApart
import Derived.Test.YtmoncgfffdddeaaWArr
import Derived.Test.YtmoncgfffdddeaaWZeros
import Derived.Test.YtmoncgfffdddeaaWFoot
import Derived.Test.YtmoncgfffdddeaaWKept
import Derived.Test.YtmoncgfffdddeaaWShare
import Derived.Test.YtmoncgfffdddeaaWN
import Derived.Test.YtmoncgfffdddeaaWFootNe
import Derived.Test.YtmoncgfffdddeaaWAt
import Derived.Test.YtmoncgfffdddeaaWEqStruct
import Derived.Test.YtmoncgfffdddeaaWRepsOne
import Derived.Test.YtmoncgfffdddeaaWInv
import Derived.Test.YtmoncgfffdddeaaWInvWords
import Derived.Test.YtmoncgfffdddeaaWGuard
import Derived.Test.YtmoncgfffdddeaaWNEv
import Derived.Test.YtmoncgfffdddeaaWMore
namespace Go.Proofs.Ytmoncgfffdddeaa.P
open Go.RowKit Go.Proofs.YtmoncgfffdddeaaW.PrintWords Go.Proofs.YtmoncgfffdddeaaW.PrintLast Go.Proofs.YtmoncgfffdddeaaW.PrintMore
attribute [local go_sem] max2_int min2_int max_two min_two max_three min_three max_four min_four   -- for this text's walks alone
set_option linter.unusedVariables false
set_option linter.unusedSimpArgs false



def errW : Option Int → Value
  | none => .nilIface
  | some c => .iface 0 (.int .i64 c)
theorem errW_none : errW none = .nilIface := rfl
theorem errW_some (c : Int) : errW (some c) = .iface 0 (.int .i64 c) := rfl

theorem info5 : (Try.prog.info? 5).map (fun i => (i.zero, i.size, i.bytes)) = some (some (.int .u8 0), 1, 1) := by kernel_rfl
theorem info26 : (Try.prog.info? 26).map (fun i => (i.zero, i.size, i.bytes)) = some (some (.agg #[(.int .u64 0), (.slice none 0 0), (.slice none 0 0), (.int .u64 0)]), 4, 64) := by kernel_rfl
-- the values' own types
def rd_L2 (xs : List (List Int)) (i : Int) : (List Int) := xs.getD i.toNat ([] : List Int)
theorem at_L2 {w : World} {A : Option Addr} {n : Nat} {xs : List (List Int)} (h : Kd.C (Kd.slice 5 (Kd.int .u8)) w A n xs) (i : Int) (h0 : 0 ≤ i) (h1 : i < n) : ∃ ad A0 c0, A = some ad ∧ w.cell? (ad.add i.toNat) = some (.slice A0 (rd_L2 xs i).length c0) ∧ (rd_L2 xs i).length ≤ c0 ∧ (Kd.int .u8).C w A0 (rd_L2 xs i).length (rd_L2 xs i) := by
  obtain ⟨ad, c, e, _, hK, hc0⟩ := Kd.C_get h ([] : List Int) i h0 h1
  have hc : ∀ j u, c[j]? = some u → w.cell? (ad.add (i.toNat * 1 + j)) = some u := hc0
  obtain ⟨A0, c0, rfl, l0, g0⟩ := hK
  exact ⟨ad, A0, c0, e, by have hq := hc 0 _ rfl; rwa [Nat.mul_one, Nat.add_zero] at hq, l0, g0⟩

/-! #### struct type 26 -/
structure S26 where
  f0 : Int
  f1 : (List Int)
  f2 : (List Int)
  f3 : Int
def z26 : S26 := ⟨(0 : Int), ([] : List Int), ([] : List Int), (0 : Int)⟩
def k26 : Kd S26 := Kd.iso (Kd.pair (Kd.int .u64) (Kd.pair (Kd.slice 5 (Kd.int .u8)) (Kd.pair (Kd.slice 5 (Kd.int .u8)) (Kd.int .u64)))) (fun x : S26 => (x.f0, x.f1, x.f2, x.f3))
theorem k26_open {w : World} {x : S26} {cs : List Value} (h : k26.K w x cs) : ∃ A1 c1 A2 c2, cs = [.int .u64 x.f0, .slice A1 x.f1.length c1, .slice A2 x.f2.length c2, .int .u64 x.f3] ∧ x.f1.length ≤ c1 ∧ (Kd.int .u8).C w A1 x.f1.length x.f1 ∧ x.f2.length ≤ c2 ∧ (Kd.int .u8).C w A2 x.f2.length x.f2 := by
  obtain ⟨_, _, rfl, rfl, ⟨_, _, rfl, ⟨A1, c1, rfl, l1, g1⟩, ⟨_, _, rfl, ⟨A2, c2, rfl, l2, g2⟩, rfl⟩⟩⟩ := h
  exact ⟨A1, c1, A2, c2, rfl, l1, g1, l2, g2⟩
theorem k26_openM {w : World} {base : Nat} {ok : Nat → Prop} {x : S26} {cs : List Value} (h : k26.M w base ok x cs) : ∃ v1 v2, cs = [.int .u64 x.f0, v1, v2, .int .u64 x.f3] ∧ (Kd.int .u8).R 5 w base ok v1 x.f1 ∧ (Kd.int .u8).R 5 w base ok v2 x.f2 := by
  obtain ⟨_, _, rfl, rfl, ⟨_, _, rfl, ⟨v1, rfl, g1⟩, ⟨_, _, rfl, ⟨v2, rfl, g2⟩, rfl⟩⟩⟩ := h
  exact ⟨v1, v2, rfl, g1, g2⟩
theorem k26_mk (w : World) (x : S26) {A1 : Option Addr} {c1 : Nat} (l1 : x.f1.length ≤ c1) (g1 : (Kd.int .u8).C w A1 x.f1.length x.f1) {A2 : Option Addr} {c2 : Nat} (l2 : x.f2.length ≤ c2) (g2 : (Kd.int .u8).C w A2 x.f2.length x.f2) : k26.K w x [.int .u64 x.f0, .slice A1 x.f1.length c1, .slice A2 x.f2.length c2, .int .u64 x.f3] := ⟨[.int .u64 x.f0], [.slice A1 x.f1.length c1, .slice A2 x.f2.length c2, .int .u64 x.f3], rfl, rfl, ⟨[.slice A1 x.f1.length c1], [.slice A2 x.f2.length c2, .int .u64 x.f3], rfl, ⟨A1, c1, rfl, l1, g1⟩, ⟨[.slice A2 x.f2.length c2], [.int .u64 x.f3], rfl, ⟨A2, c2, rfl, l2, g2⟩, rfl⟩⟩⟩
theorem k26_mkM (w : World) (base : Nat) (ok : Nat → Prop) (x : S26) {v1 : Value} (g1 : (Kd.int .u8).R 5 w base ok v1 x.f1) {v2 : Value} (g2 : (Kd.int .u8).R 5 w base ok v2 x.f2) : k26.M w base ok x [.int .u64 x.f0, v1, v2, .int .u64 x.f3] := ⟨[.int .u64 x.f0], [v1, v2, .int .u64 x.f3], rfl, rfl, ⟨[v1], [v2, .int .u64 x.f3], rfl, ⟨v1, rfl, g1⟩, ⟨[v2], [.int .u64 x.f3], rfl, ⟨v2, rfl, g2⟩, rfl⟩⟩⟩
def rd_T26 (xs : List S26) (i : Int) : S26 := xs.getD i.toNat z26
theorem at_T26 {w : World} {A : Option Addr} {n : Nat} {xs : List S26} (h : Kd.C k26 w A n xs) (i : Int) (h0 : 0 ≤ i) (h1 : i < n) : ∃ ad A1 c1 A2 c2, A = some ad ∧ w.cell? (ad.add (i.toNat * 4)) = some (.int .u64 (rd_T26 xs i).f0) ∧ w.cell? ⟨(ad.add (i.toNat * 4)).block, (ad.add (i.toNat * 4)).off + 1, none⟩ = some (.slice A1 (rd_T26 xs i).f1.length c1) ∧ w.cell? ⟨(ad.add (i.toNat * 4)).block, (ad.add (i.toNat * 4)).off + 2, none⟩ = some (.slice A2 (rd_T26 xs i).f2.length c2) ∧ w.cell? ⟨(ad.add (i.toNat * 4)).block, (ad.add (i.toNat * 4)).off + 3, none⟩ = some (.int .u64 (rd_T26 xs i).f3) ∧ (rd_T26 xs i).f1.length ≤ c1 ∧ (Kd.int .u8).C w A1 (rd_T26 xs i).f1.length (rd_T26 xs i).f1 ∧ (rd_T26 xs i).f2.length ≤ c2 ∧ (Kd.int .u8).C w A2 (rd_T26 xs i).f2.length (rd_T26 xs i).f2 := by
  obtain ⟨ad, c, e, _, hK, hc0⟩ := Kd.C_get h z26 i h0 h1
  have hc : ∀ j u, c[j]? = some u → w.cell? (ad.add (i.toNat * 4 + j)) = some u := hc0
  obtain ⟨A1, c1, A2, c2, rfl, l1, g1, l2, g2⟩ := k26_open hK
  exact ⟨ad, A1, c1, A2, c2, e, hc 0 _ rfl, by rw [← add_field _ _ 1 (by omega)]; exact hc 1 _ rfl, by rw [← add_field _ _ 2 (by omega)]; exact hc 2 _ rfl, by rw [← add_field _ _ 3 (by omega)]; exact hc 3 _ rfl, l1, g1, l2, g2⟩

theorem moves26 : Moves k26 := moves_iso _ (moves_pair (moves_scalar _ _) (moves_pair (moves_slice _ (moves_scalar _ _)) (moves_pair (moves_slice _ (moves_scalar _ _)) (moves_scalar _ _))))
def G26 (x : S26) : Prop := (Lit.int .u64 x.f0).wf = true ∧ (x.f1.length ≤ 9223372036854775807 ∧ ∀ y_ ∈ x.f1, (Lit.int .u8 y_).wf = true) ∧ (x.f2.length ≤ 9223372036854775807 ∧ ∀ y_ ∈ x.f2, (Lit.int .u8 y_).wf = true) ∧ (Lit.int .u64 x.f3).wf = true
theorem opens26 : Opens Try.prog k26 26 G26 := opens_iso (fun x : S26 => (x.f0, x.f1, x.f2, x.f3)) (fun p => ⟨p.1, p.2.1, p.2.2.1, p.2.2.2⟩) (fun _ => rfl) (opens_struct Try.underlying26 (by kernel_rfl) (opensF_cons rfl (by kernel_rfl) (opens_int Try.underlying23) (opensF_cons rfl (by kernel_rfl) (opens_slice Try.underlying24 (by kernel_rfl) (opens_int Try.underlying5)) (opensF_cons rfl (by kernel_rfl) (opens_slice Try.underlying24 (by kernel_rfl) (opens_int Try.underlying5)) (opensF_one rfl (by kernel_rfl) (opens_int Try.underlying23))))))
end Go.Proofs.Ytmoncgfffdddeaa.P
