/- Plain laws of the document's answer for ledgers: one channel, which one has a hold. -/
import Derived.Test.YtcfbcoinbecdfaaLdLR
import Derived.Test.YtcfbcoinbecdfaaLdLGD
import Derived.Test.YtcfbcoinbecdfaaQLdoesx15
import Derived.Test.YtcfbcoinbecdfaaQLdoesx17
import Derived.Test.YtcfbcoinbecdfaaQLdoesx11
set_option linter.unusedVariables false
namespace Go.Proofs.Ytcfbcoinbecdfaa.B
open Go.RowKit Go.Proofs.Ytcfbcoinbecdfaa.P Go.Proofs.YtcfbcoinbecdfaaW.PrintWords
theorem rcopy10_eq (c : S25) (h : c.f5.length < 8796093022208) : damsonref09_Copy.f c.f0 c.f1 c.f2 c.f3 c.f4 c.f5 c.f6 = some (c.f0, c.f1, c.f2, c.f3, c.f4, c.f5, c.f6) := by
  unfold damsonref09_Copy.f
  rw [if_pos (by simpa using h), List.nil_append]
theorem rfind10_loop (l : List S25) (id : Int) (hl : l.length ≤ 1000) : ∀ (ys : List S25) (i : Nat), l.drop i = ys →
    (look lk id ys = none → Ev (fun k => damsonref10_find.l0 k id l (l.length : Int) (i : Int)) (-1)) ∧
    (∀ c, look lk id ys = some c → ∃ j : Nat, j < l.length ∧ l.getD j z25 = c ∧ Ev (fun k => damsonref10_find.l0 k id l (l.length : Int) (i : Int)) (j : Int))
  | [], i, h => by
    have hi := drop_nil h
    refine ⟨fun _ => ?_, fun c q => by simp [look] at q⟩
    refine Ev.step (fun k => by rw [damsonref10_find.l0]) ?_
    exact ev_neg (by omega) (ev_some rfl)
  | y :: ys, i, h => by
    have hi := drop_lt h
    obtain ⟨i1, i2⟩ := rfind10_loop l id hl ys (i + 1) (drop_next h)
    have e : look lk id (y :: ys) = if lk y = id then some y else look lk id ys := rfl
    rw [e]
    by_cases q : y.f0 = id
    · rw [if_pos q]
      refine ⟨fun q1 => by simp at q1, fun c hc => ⟨i, hi, ?_, ?_⟩⟩
      · injection hc with hc
        rw [← hc]; exact drop_get z25 h
      · refine Ev.step (fun k => by rw [damsonref10_find.l0]) ?_
        rw [drop_rd25 h]
        exact ev_pos (by omega) (ev_pos (by omega) (ev_pos (by omega) (ev_pos q (ev_some rfl))))
    · rw [if_neg q]
      have step : ∀ r, Ev (fun k => damsonref10_find.l0 k id l (l.length : Int) ((i + 1 : Nat) : Int)) r → Ev (fun k => damsonref10_find.l0 k id l (l.length : Int) (i : Int)) r := by
        intro r hr
        refine Ev.step (fun k => by rw [damsonref10_find.l0]) ?_
        rw [drop_rd25 h, next_i hi (by omega)]
        exact ev_pos (by omega) (ev_pos (by omega) (ev_pos (by omega) (ev_neg q hr)))
      refine ⟨fun q1 => step _ (i1 q1), fun c hc => ?_⟩
      obtain ⟨j, j1, j2, j3⟩ := i2 c hc
      exact ⟨j, j1, j2, step _ j3⟩
theorem rget10_ev (l : List S25) (id : Int) (hg : LB l) : Ev (fun k => damsonref10_Get.f k l id) (tup (lget l id)) := by
  unfold damsonref10_Get.f
  refine Ev.bind (rcheck10_ev l hg) ?_
  unfold lchk lget
  by_cases ok : lok l = true
  · rw [if_pos ok, if_pos ok]
    obtain ⟨h1, h2, h3, h4, h5⟩ := (lok_iff (lb_cb hg)).1 ok
    obtain ⟨i1, i2⟩ := rfind10_loop l id (by omega) l 0 rfl
    refine ev_pos rfl ?_
    cases e : look lk id l with
    | none => exact Ev.bind (i1 e) (ev_pos (by decide) (ev_some rfl))
    | some c =>
      obtain ⟨j, j1, j2, j3⟩ := i2 c e
      refine Ev.bind j3 (ev_neg (by omega) (ev_pos (by omega) (ev_pos (by omega) ?_)))
      rw [rd25, j2]
      have hc := cok_len c (h2 c (look_some e).1)
      rw [rcopy10_eq c (by omega)]
      exact ev_some rfl
  · rw [if_neg ok, if_neg ok]
    exact ev_neg (by decide) (ev_some rfl)
theorem rwhere10_ev (l : List S25) (h : Int) (hg : LB l) : Ev (fun k => damsonref10_Where.f k l h) (lwhere l h) := by
  unfold damsonref10_Where.f
  refine Ev.bind (rcheck10_ev l hg) ?_
  unfold lchk lwhere
  by_cases ok : lok l = true
  · rw [if_pos ok, if_pos ok]
    obtain ⟨h1, h2, h3, h4, h5⟩ := (lok_iff (lb_cb hg)).1 ok
    refine ev_pos rfl (Ev.bind (rwh_ev l h (by omega) (fun c hc => by have := cok_len c (h2 c hc); omega)) ?_)
    unfold rwh
    cases e : lidx h l with
    | none => exact ev_pos (by decide) (ev_some rfl)
    | some j =>
      obtain ⟨p1, _⟩ := lidx_some (z := z25) e
      show Ev (fun k => if (j : Int) < 0 then some (0, 5) else if 0 ≤ (j : Int) then if (j : Int) < (l.length : Int) then some ((rd_T25 l (j : Int)).f0, 0) else none else none) _
      refine ev_neg (by omega) (ev_pos (by omega) (ev_pos (by omega) (ev_some ?_)))
      rw [rd25]
  · rw [if_neg ok, if_neg ok]
    exact ev_neg (by decide) (ev_some rfl)
end Go.Proofs.Ytcfbcoinbecdfaa.B
