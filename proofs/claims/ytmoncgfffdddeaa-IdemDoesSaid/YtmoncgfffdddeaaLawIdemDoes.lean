-- written by a program of this session (wip/print)
import Derived.Test.YtmoncgfffdddeaaRows
import Derived.Test.YtmoncgfffdddeaaQIDoesx8
import Derived.Test.YtmoncgfffdddeaaPureIdemDoes
import Derived.WalkKit
import Derived.ProofKit
import Derived.OpenShut
import Derived.ShutString
import Derived.ChangeOld
import Derived.Below
import Derived.SizedLaws
namespace Go.Proofs.Ytmoncgfffdddeaa.idemDoes
open Go.ChangeShapes Go.WideShapes Go.ChangeAt Go.RowKit Go.Proofs.Ytmoncgfffdddeaa.P Go.Proofs.YtmoncgfffdddeaaW.PrintWords Go.Proofs.YtmoncgfffdddeaaW.PrintLast
open Go.ChangeMaps (open_string shut_string)
set_option linter.unusedVariables false
theorem own : ownKnob Try.prog.godebug = none := by kernel_rfl
theorem laidOut : laidOutB Try.prog = true := by kernel_rfl
set_option maxRecDepth 100000 in
theorem lifted (os : Os) (started : os.Started) (H : Type) (enc : TypeId × Value → H) :
    ReturnsInHanded {} Try.checked os 5 .any (Rows.idemDoesSpec.pre6 enc Try.prog Try.f5 Rows.idemDoesRow.domain false) (Rows.idemDoesSpec.post enc Try.prog Try.f5 false true false false) := by
  refine returnsInHanded_of_change_sized (C := Try.checked) own started (by kernel_rfl) Try.func5
    (ChangeSpec.witness6 (enc := enc) (C := Try.checked) false ⟨#[], #[.slice none 0 0, .slice none 0 0, (.agg #[(.int .u64 0), (.slice none 0 0), (.slice none 0 0), (.int .u64 0)]), .int .u64 0, .slice none 0 0, .int .u64 0], []⟩ 8 (by kernel_rfl) (by kernel_rfl) (by kernel_rfl) (by kernel_rfl)) ?_
  intro W base args ds gs before hval0 hW hcnd hsz0 _
  have hval : ∀ (j : Nat) t v, Try.f5.params[j]? = some t → args[j]? = some v → Value.okWide Try.prog W .any base t v := hval0
  have hW' := hW
  obtain ⟨p, q, hA0, hV, rfl, hfz, hnd⟩ := hW
  have hA : DataW.TrodAll enc Try.prog W 0 (fun _ => true) true Try.f5.params.toList args.toList ds p := hA0
  rw [Try.params5] at hA hval
  obtain ⟨v0, vs0, d0, ds0, p0, q0, hargs, rfl, rfl, h0, r0⟩ := trodAll_cons hA
  obtain ⟨v1, vs1, d1, ds1, p1, q1, rfl, rfl, rfl, h1, r1⟩ := trodAll_cons r0
  obtain ⟨v2, vs2, d2, ds2, p2, q2, rfl, rfl, rfl, h2, r2⟩ := trodAll_cons r1
  obtain ⟨v3, vs3, d3, ds3, p3, q3, rfl, rfl, rfl, h3, r3⟩ := trodAll_cons r2
  obtain ⟨v4, vs4, d4, ds4, p4, q4, rfl, rfl, rfl, h4, r4⟩ := trodAll_cons r3
  obtain ⟨v5, vs5, d5, ds5, p5, q5, rfl, rfl, rfl, h5, r5⟩ := trodAll_cons r4
  obtain ⟨rfl, rfl, rfl⟩ := trodAll_nil r5
  obtain rfl : args = #[v0, v1, v2, v3, v4, v5] := by cases args; simp_all
  obtain ⟨rfl, rfl⟩ := trodVars_none hV
  obtain ⟨B0, n0, c0, rfl⟩ := okWide_slice Try.underlying22 (hval 0 22 v0 rfl rfl)
  have k0 := h0
  have lt0 : ∀ x ∈ p0, x.block < W.heap.size := by obtain ⟨m, hm⟩ := k0; exact DataW.trod_lt m _ _ _ hm
  obtain ⟨l0, ⟨A0, e0, he0, hc0, hr0⟩, g0⟩ := (fun (hf : ∃ fuel, DataW.trod enc Try.prog W 0 (fun _ => true) true fuel 22 [.slice B0 n0 c0] = some (d0, p0)) => hf.elim (fun _ hf => ((opens_slice Try.underlying22 (by kernel_rfl) opens26)).out hf)) h0
  simp only [List.cons.injEq, Value.slice.injEq, and_true] at he0
  obtain ⟨rfl, rfl, rfl⟩ := he0
  obtain ⟨B1, n1, c1, rfl⟩ := okWide_slice Try.underlying22 (hval 1 22 v1 rfl rfl)
  have k1 := h1
  have lt1 : ∀ x ∈ p1, x.block < W.heap.size := by obtain ⟨m, hm⟩ := k1; exact DataW.trod_lt m _ _ _ hm
  obtain ⟨l1, ⟨A1, e1, he1, hc1, hr1⟩, g1⟩ := (fun (hf : ∃ fuel, DataW.trod enc Try.prog W 0 (fun _ => true) true fuel 22 [.slice B1 n1 c1] = some (d1, p1)) => hf.elim (fun _ hf => ((opens_slice Try.underlying22 (by kernel_rfl) opens26)).out hf)) h1
  simp only [List.cons.injEq, Value.slice.injEq, and_true] at he1
  obtain ⟨rfl, rfl, rfl⟩ := he1
  obtain ⟨cs2, rfl, _⟩ := okWide_struct Try.underlying26 (hval 2 26 v2 rfl rfl)
  have k2 := h2
  have lt2 : ∀ x ∈ p2, x.block < W.heap.size := by obtain ⟨m, hm⟩ := k2; exact DataW.trod_lt m _ _ _ hm
  obtain ⟨s2, hK2, g2⟩ := (fun (hf : ∃ fuel, DataW.trod enc Try.prog W 0 (fun _ => true) true fuel 26 cs2.toList = some (d2, p2)) => hf.elim (fun _ hf => opens26.out hf)) h2
  obtain ⟨A2_1, c2_1, A2_2, c2_2, e2, hc2_1, hr2_1, hc2_2, hr2_2⟩ := k26_open hK2
  obtain rfl : cs2 = #[.int .u64 (s2.f0), .slice A2_1 (s2.f1).length c2_1, .slice A2_2 (s2.f2).length c2_2, .int .u64 (s2.f3)] := Array.toList_inj.1 e2
  obtain ⟨a3, rfl, rfl, rfl, w3⟩ := open_int Try.underlying23 (hval 3 23 v3 rfl rfl) h3
  obtain ⟨B4, n4, c4, rfl⟩ := okWide_slice Try.underlying24 (hval 4 24 v4 rfl rfl)
  have k4 := h4
  have lt4 : ∀ x ∈ p4, x.block < W.heap.size := by obtain ⟨m, hm⟩ := k4; exact DataW.trod_lt m _ _ _ hm
  obtain ⟨l4, ⟨A4, e4, he4, hc4, hr4⟩, g4⟩ := (fun (hf : ∃ fuel, DataW.trod enc Try.prog W 0 (fun _ => true) true fuel 24 [.slice B4 n4 c4] = some (d4, p4)) => hf.elim (fun _ hf => ((opens_slice Try.underlying24 (by kernel_rfl) (opens_int Try.underlying5))).out hf)) h4
  simp only [List.cons.injEq, Value.slice.injEq, and_true] at he4
  obtain ⟨rfl, rfl, rfl⟩ := he4
  obtain ⟨a5, rfl, rfl, rfl, w5⟩ := open_int Try.underlying23 (hval 5 23 v5 rfl rfl) h5
  clear hA0 hval0 hsz0
  refine (P.damsonlaw14_IdemDoes.walk Pure.IdemDoes W l0 B0 c0 hr0 hc0 g0 l1 B1 c1 hr1 hc1 g1 s2 A2_1 c2_1 hr2_1 hc2_1 A2_2 c2_2 hr2_2 hc2_2 g2 a3 w3 l4 B4 c4 hr4 hc4 g4 a5 w5).mono fun e W' ⟨he, bel⟩ => ?_
  subst he
  exact ⟨_, rfl, _, _, _, [], _, [], hW', trodAll_mk1 (shut_bool Try.underlying4 _), (trodAll_cons_mk (Below.trod laidOut (by kernel_rfl) (of_decide_eq_true (by kernel_rfl)) k0 bel lt0) (trodAll_cons_mk (Below.trod laidOut (by kernel_rfl) (of_decide_eq_true (by kernel_rfl)) k1 bel lt1) (trodAll_cons_mk (Below.trod laidOut (by kernel_rfl) (of_decide_eq_true (by kernel_rfl)) k2 bel lt2) (trodAll_cons_mk (shut_int Try.underlying23 w3) (trodAll_cons_mk (Below.trod laidOut (by kernel_rfl) (of_decide_eq_true (by kernel_rfl)) k4 bel lt4) (trodAll_cons_mk (shut_int Try.underlying23 w5) trodAll_mk0)))))), rfl, bel.frame _, fun h => by cases h⟩
theorem over : Rows.idemDoesRow.holds Try.pinned (OpenSpec.ofChange Rows.idemDoesSpec) :=
  OpenClaim.holds_of_wide 5 Try.f5 rfl rfl rfl rfl rfl rfl rfl ⟨rfl, rfl, rfl, rfl, rfl⟩ rfl rfl rfl rfl rfl (by kernel_rfl) Try.func5 (by kernel_rfl)
    (of_decide_eq_true (by kernel_rfl)) (by unfold Func.isWrapper; first | (rw [if_pos (by decide +kernel)]; kernel_rfl) | (rw [if_neg (by decide +kernel)]; exact ⟨rfl, rfl⟩))
    (fun os started H enc _ => lifted os started H enc)
theorem proved : Rows.IdemDoesSaid := over
#print axioms proved
end Go.Proofs.Ytmoncgfffdddeaa.idemDoes
namespace Go.Proofs.Ytmoncgfffdddeaa
/-- The row, under a short name, for the claim. -/
theorem idemDoes_holds : Rows.IdemDoesSaid := idemDoes.proved
end Go.Proofs.Ytmoncgfffdddeaa
