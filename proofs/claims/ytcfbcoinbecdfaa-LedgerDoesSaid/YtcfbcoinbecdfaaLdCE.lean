/- Plain laws of the package channel: what a hold's end leaves. -/
import Derived.Test.YtcfbcoinbecdfaaLdCB
import Derived.Test.YtcfbcoinbecdfaaQLdoesx10
set_option linter.unusedVariables false
namespace Go.Proofs.Ytcfbcoinbecdfaa.B
open Go.RowKit Go.Proofs.Ytcfbcoinbecdfaa.P Go.Proofs.YtcfbcoinbecdfaaW.PrintWords
def cend (c : S25) (id : Int) (b : Bool) : S25 × Int × Int :=
  if cok c = true then (match look hk id c.f5 with
    | none => (z25, 0, 5)
    | some x => (cwith c (if b then c.f1 else c.f1 + x.f1) (if b then c.f2 + x.f1 else c.f2) (del hk id c.f5), x.f1, 0)) else (z25, 0, 1)
def tup2 (p : S25 × Int × Int) : Int × Int × Int × Int × Int × (List S44) × Bool × Int × Int := (p.1.f0, p.1.f1, p.1.f2, p.1.f3, p.1.f4, p.1.f5, p.1.f6, p.2.1, p.2.2)
theorem endFail_ev (c : S25) (id : Int) (g : CB c) : Ev (fun k => channel_end_at_channel_Fail_1.f k c.f0 c.f1 c.f2 c.f3 c.f4 c.f5 c.f6 id) (tup2 (cend c id false)) := by
  unfold channel_end_at_channel_Fail_1.f
  refine Ev.bind (ccheck_ev c g) ?_
  obtain ⟨h1, h2, h3, h4, hn⟩ := g
  unfold cend
  by_cases ok : cok c = true
  · obtain ⟨⟨a1, a2, a3, a4⟩, ⟨a5, a6⟩, a7, a8, a9, a10⟩ := cok_iff.1 ok
    rw [if_pos ok, if_pos ok]
    refine ev_pos rfl (Ev.bind (csearch_ev c.f5 id a5 (by omega)) ?_)
    cases hl : look hk id c.f5 with
    | none => exact ev_neg (by simp) (ev_some rfl)
    | some x =>
      have hat := look_at id (z := z44) a5 hl
      have hrd : rd_T44 c.f5 (pos hk id c.f5 : Int) = x := by rw [rd44, hat.2]
      have e1 : slices_Clone_Hold.f c.f5 = some c.f5 := by unfold slices_Clone_Hold.f; rw [if_pos (by omega)]
      have e2 : slices_Delete_Hold.f c.f5 (pos hk id c.f5 : Int) (wrap64 ((pos hk id c.f5 : Int) + 1)) = some (del hk id c.f5) := by
        unfold slices_Delete_Hold.f
        rw [if_pos ⟨by omega, by omega, rfl, by omega⟩, Int.toNat_natCast, List.eraseIdx_eq_take_drop_succ]
        exact congrArg some (del_eq id a5 hl)
      have hx := le_tot hn (look_some hl).1
      have hx0 := hn x (look_some hl).1
      have ht := tot_nonneg hn
      refine ev_pos rfl (ev_pos (by show (0 : Int) ≤ (pos hk id c.f5 : Int); omega) (ev_pos (by show (pos hk id c.f5 : Int) < _; omega) (ev_const ?_)))
      simp only [e1, e2, Option.bind_some, hrd, channel_Fail_1.f]
      rw [u64w (by omega) (by omega)]
      rfl
  · rw [if_neg ok, if_neg ok]
    exact ev_neg (by decide) (ev_some rfl)
theorem fail_ev (c : S25) (id : Int) (g : CB c) : Ev (fun k => channel_Fail.f k c.f0 c.f1 c.f2 c.f3 c.f4 c.f5 c.f6 id) (tup2 (cend c id false)) := by
  unfold channel_Fail.f
  exact Ev.bind (endFail_ev c id g) (Ev.now _)
theorem endSettle_ev (c : S25) (id : Int) (g : CB c) : Ev (fun k => channel_end_at_channel_Settle_1.f k c.f0 c.f1 c.f2 c.f3 c.f4 c.f5 c.f6 id) (tup2 (cend c id true)) := by
  unfold channel_end_at_channel_Settle_1.f
  refine Ev.bind (ccheck_ev c g) ?_
  obtain ⟨h1, h2, h3, h4, hn⟩ := g
  unfold cend
  by_cases ok : cok c = true
  · obtain ⟨⟨a1, a2, a3, a4⟩, ⟨a5, a6⟩, a7, a8, a9, a10⟩ := cok_iff.1 ok
    rw [if_pos ok, if_pos ok]
    refine ev_pos rfl (Ev.bind (csearch_ev c.f5 id a5 (by omega)) ?_)
    cases hl : look hk id c.f5 with
    | none => exact ev_neg (by simp) (ev_some rfl)
    | some x =>
      have hat := look_at id (z := z44) a5 hl
      have hrd : rd_T44 c.f5 (pos hk id c.f5 : Int) = x := by rw [rd44, hat.2]
      have e1 : slices_Clone_Hold.f c.f5 = some c.f5 := by unfold slices_Clone_Hold.f; rw [if_pos (by omega)]
      have e2 : slices_Delete_Hold.f c.f5 (pos hk id c.f5 : Int) (wrap64 ((pos hk id c.f5 : Int) + 1)) = some (del hk id c.f5) := by
        unfold slices_Delete_Hold.f
        rw [if_pos ⟨by omega, by omega, rfl, by omega⟩, Int.toNat_natCast, List.eraseIdx_eq_take_drop_succ]
        exact congrArg some (del_eq id a5 hl)
      have hx := le_tot hn (look_some hl).1
      have hx0 := hn x (look_some hl).1
      have ht := tot_nonneg hn
      refine ev_pos rfl (ev_pos (by show (0 : Int) ≤ (pos hk id c.f5 : Int); omega) (ev_pos (by show (pos hk id c.f5 : Int) < _; omega) (ev_const ?_)))
      simp only [e1, e2, Option.bind_some, hrd, channel_Settle_1.f]
      rw [u64w (by omega) (by omega)]
      rfl
  · rw [if_neg ok, if_neg ok]
    exact ev_neg (by decide) (ev_some rfl)
theorem settle_ev (c : S25) (id : Int) (g : CB c) : Ev (fun k => channel_Settle.f k c.f0 c.f1 c.f2 c.f3 c.f4 c.f5 c.f6 id) (tup2 (cend c id true)) := by
  unfold channel_Settle.f
  exact Ev.bind (endSettle_ev c id g) (Ev.now _)
/-- What an end leaves, if it is one. -/
theorem cend_some {c : S25} {id : Int} {b : Bool} {x : S44} (ok : cok c = true) (hl : look hk id c.f5 = some x) : cend c id b = (cwith c (if b then c.f1 else c.f1 + x.f1) (if b then c.f2 + x.f1 else c.f2) (del hk id c.f5), x.f1, 0) := by
  unfold cend; rw [if_pos ok, hl]
end Go.Proofs.Ytcfbcoinbecdfaa.B
