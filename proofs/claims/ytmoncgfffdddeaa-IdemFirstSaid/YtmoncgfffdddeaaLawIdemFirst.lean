-- written by a program of this session (wip/print)
import Derived.Test.YtmoncgfffdddeaaRows
import Derived.Test.YtmoncgfffdddeaaQIFirstx5
import Derived.Test.YtmoncgfffdddeaaPureIdemFirst
import Derived.WalkKit
import Derived.ProofKit
import Derived.OpenShut
import Derived.ShutString
import Derived.ChangeOld
import Derived.Below
import Derived.SizedLaws
namespace Go.Proofs.Ytmoncgfffdddeaa.idemFirst
open Go.ChangeShapes Go.WideShapes Go.ChangeAt Go.RowKit Go.Proofs.Ytmoncgfffdddeaa.P Go.Proofs.YtmoncgfffdddeaaW.PrintWords Go.Proofs.YtmoncgfffdddeaaW.PrintLast
open Go.ChangeMaps (open_string shut_string)
set_option linter.unusedVariables false
theorem own : ownKnob Try.prog.godebug = none := by kernel_rfl
theorem laidOut : laidOutB Try.prog = true := by kernel_rfl
set_option maxRecDepth 100000 in
theorem lifted (os : Os) (started : os.Started) (H : Type) (enc : TypeId × Value → H) :
    ReturnsInHanded {} Try.checked os 3 .any (Rows.idemFirstSpec.pre6 enc Try.prog Try.f3 Rows.idemFirstRow.domain false) (Rows.idemFirstSpec.post enc Try.prog Try.f3 false true false false) := by
  refine returnsInHanded_of_change_sized (C := Try.checked) own started (by kernel_rfl) Try.func3
    (ChangeSpec.witness6 (enc := enc) (C := Try.checked) false ⟨#[], #[.slice none 0 0, (.agg #[(.int .u64 0), (.slice none 0 0), (.slice none 0 0), (.int .u64 0)]), .int .u64 0, .slice none 0 0, .slice none 0 0, .slice none 0 0], []⟩ 8 (by kernel_rfl) (by kernel_rfl) (by kernel_rfl) (by kernel_rfl)) ?_
  intro W base args ds gs before hval0 hW hcnd hsz0 _
  have hval : ∀ (j : Nat) t v, Try.f3.params[j]? = some t → args[j]? = some v → Value.okWide Try.prog W .any base t v := hval0
  have hW' := hW
  obtain ⟨p, q, hA0, hV, rfl, hfz, hnd⟩ := hW
  have hA : DataW.TrodAll enc Try.prog W 0 (fun _ => true) true Try.f3.params.toList args.toList ds p := hA0
  rw [Try.params3] at hA hval
  obtain ⟨v0, vs0, d0, ds0, p0, q0, hargs, rfl, rfl, h0, r0⟩ := trodAll_cons hA
  obtain ⟨v1, vs1, d1, ds1, p1, q1, rfl, rfl, rfl, h1, r1⟩ := trodAll_cons r0
  obtain ⟨v2, vs2, d2, ds2, p2, q2, rfl, rfl, rfl, h2, r2⟩ := trodAll_cons r1
  obtain ⟨v3, vs3, d3, ds3, p3, q3, rfl, rfl, rfl, h3, r3⟩ := trodAll_cons r2
  obtain ⟨v4, vs4, d4, ds4, p4, q4, rfl, rfl, rfl, h4, r4⟩ := trodAll_cons r3
  obtain ⟨v5, vs5, d5, ds5, p5, q5, rfl, rfl, rfl, h5, r5⟩ := trodAll_cons r4
  obtain ⟨rfl, rfl, rfl⟩ := trodAll_nil r5
  obtain rfl : args = #[v0, v1, v2, v3, v4, v5] := by cases args; simp_all
  obtain ⟨rfl, rfl⟩ := trodVars_none hV
  obtain ⟨B0, n0, c0, rfl⟩ := okWide_slice Try.underlying22 (hval 0 22 v0 rfl rfl)
  have k0 := h0
  have lt0 : ∀ x ∈ p0, x.block < W.heap.size := by obtain ⟨m, hm⟩ := k0; exact DataW.trod_lt m _ _ _ hm
  obtain ⟨l0, ⟨A0, e0, he0, hc0, hr0⟩, g0⟩ := (fun (hf : ∃ fuel, DataW.trod enc Try.prog W 0 (fun _ => true) true fuel 22 [.slice B0 n0 c0] = some (d0, p0)) => hf.elim (fun _ hf => ((opens_slice Try.underlying22 (by kernel_rfl) opens26)).out hf)) h0
  simp only [List.cons.injEq, Value.slice.injEq, and_true] at he0
  obtain ⟨rfl, rfl, rfl⟩ := he0
  obtain ⟨cs1, rfl, _⟩ := okWide_struct Try.underlying26 (hval 1 26 v1 rfl rfl)
  have k1 := h1
  have lt1 : ∀ x ∈ p1, x.block < W.heap.size := by obtain ⟨m, hm⟩ := k1; exact DataW.trod_lt m _ _ _ hm
  obtain ⟨s1, hK1, g1⟩ := (fun (hf : ∃ fuel, DataW.trod enc Try.prog W 0 (fun _ => true) true fuel 26 cs1.toList = some (d1, p1)) => hf.elim (fun _ hf => opens26.out hf)) h1
  obtain ⟨A1_1, c1_1, A1_2, c1_2, e1, hc1_1, hr1_1, hc1_2, hr1_2⟩ := k26_open hK1
  obtain rfl : cs1 = #[.int .u64 (s1.f0), .slice A1_1 (s1.f1).length c1_1, .slice A1_2 (s1.f2).length c1_2, .int .u64 (s1.f3)] := Array.toList_inj.1 e1
  obtain ⟨a2, rfl, rfl, rfl, w2⟩ := open_int Try.underlying23 (hval 2 23 v2 rfl rfl) h2
  obtain ⟨B3, n3, c3, rfl⟩ := okWide_slice Try.underlying22 (hval 3 22 v3 rfl rfl)
  have k3 := h3
  have lt3 : ∀ x ∈ p3, x.block < W.heap.size := by obtain ⟨m, hm⟩ := k3; exact DataW.trod_lt m _ _ _ hm
  obtain ⟨l3, ⟨A3, e3, he3, hc3, hr3⟩, g3⟩ := (fun (hf : ∃ fuel, DataW.trod enc Try.prog W 0 (fun _ => true) true fuel 22 [.slice B3 n3 c3] = some (d3, p3)) => hf.elim (fun _ hf => ((opens_slice Try.underlying22 (by kernel_rfl) opens26)).out hf)) h3
  simp only [List.cons.injEq, Value.slice.injEq, and_true] at he3
  obtain ⟨rfl, rfl, rfl⟩ := he3
  obtain ⟨B4, n4, c4, rfl⟩ := okWide_slice Try.underlying27 (hval 4 27 v4 rfl rfl)
  have k4 := h4
  have lt4 : ∀ x ∈ p4, x.block < W.heap.size := by obtain ⟨m, hm⟩ := k4; exact DataW.trod_lt m _ _ _ hm
  obtain ⟨l4, ⟨A4, e4, he4, hc4, hr4⟩, g4⟩ := (fun (hf : ∃ fuel, DataW.trod enc Try.prog W 0 (fun _ => true) true fuel 27 [.slice B4 n4 c4] = some (d4, p4)) => hf.elim (fun _ hf => ((opens_slice Try.underlying27 (by kernel_rfl) (opens_int Try.underlying23))).out hf)) h4
  simp only [List.cons.injEq, Value.slice.injEq, and_true] at he4
  obtain ⟨rfl, rfl, rfl⟩ := he4
  obtain ⟨B5, n5, c5, rfl⟩ := okWide_slice Try.underlying24 (hval 5 24 v5 rfl rfl)
  have k5 := h5
  have lt5 : ∀ x ∈ p5, x.block < W.heap.size := by obtain ⟨m, hm⟩ := k5; exact DataW.trod_lt m _ _ _ hm
  obtain ⟨l5, ⟨A5, e5, he5, hc5, hr5⟩, g5⟩ := (fun (hf : ∃ fuel, DataW.trod enc Try.prog W 0 (fun _ => true) true fuel 24 [.slice B5 n5 c5] = some (d5, p5)) => hf.elim (fun _ hf => ((opens_slice Try.underlying24 (by kernel_rfl) (opens_int Try.underlying5))).out hf)) h5
  simp only [List.cons.injEq, Value.slice.injEq, and_true] at he5
  obtain ⟨rfl, rfl, rfl⟩ := he5
  clear hA0 hval0 hsz0
  refine (P.damsonlaw14_IdemFirst.walk Pure.IdemFirst W l0 B0 c0 hr0 hc0 g0 s1 A1_1 c1_1 hr1_1 hc1_1 A1_2 c1_2 hr1_2 hc1_2 g1 a2 w2 l3 B3 c3 hr3 hc3 g3 l4 B4 c4 hr4 hc4 g4 l5 B5 c5 hr5 hc5 g5).mono fun e W' ⟨he, bel⟩ => ?_
  subst he
  exact ⟨_, rfl, _, _, _, [], _, [], hW', trodAll_mk1 (shut_bool Try.underlying4 _), (trodAll_cons_mk (Below.trod laidOut (by kernel_rfl) (of_decide_eq_true (by kernel_rfl)) k0 bel lt0) (trodAll_cons_mk (Below.trod laidOut (by kernel_rfl) (of_decide_eq_true (by kernel_rfl)) k1 bel lt1) (trodAll_cons_mk (shut_int Try.underlying23 w2) (trodAll_cons_mk (Below.trod laidOut (by kernel_rfl) (of_decide_eq_true (by kernel_rfl)) k3 bel lt3) (trodAll_cons_mk (Below.trod laidOut (by kernel_rfl) (of_decide_eq_true (by kernel_rfl)) k4 bel lt4) (trodAll_cons_mk (Below.trod laidOut (by kernel_rfl) (of_decide_eq_true (by kernel_rfl)) k5 bel lt5) trodAll_mk0)))))), rfl, bel.frame _, fun h => by cases h⟩
theorem over : Rows.idemFirstRow.holds Try.pinned (OpenSpec.ofChange Rows.idemFirstSpec) :=
  OpenClaim.holds_of_wide 3 Try.f3 rfl rfl rfl rfl rfl rfl rfl ⟨rfl, rfl, rfl, rfl, rfl⟩ rfl rfl rfl rfl rfl (by kernel_rfl) Try.func3 (by kernel_rfl)
    (of_decide_eq_true (by kernel_rfl)) (by unfold Func.isWrapper; first | (rw [if_pos (by decide +kernel)]; kernel_rfl) | (rw [if_neg (by decide +kernel)]; exact ⟨rfl, rfl⟩))
    (fun os started H enc _ => lifted os started H enc)
theorem proved : Rows.IdemFirstSaid := over
#print axioms proved
end Go.Proofs.Ytmoncgfffdddeaa.idemFirst
namespace Go.Proofs.Ytmoncgfffdddeaa
/-- The row, under a short name, for the claim. -/
theorem idemFirst_holds : Rows.IdemFirstSaid := idemFirst.proved
end Go.Proofs.Ytmoncgfffdddeaa
