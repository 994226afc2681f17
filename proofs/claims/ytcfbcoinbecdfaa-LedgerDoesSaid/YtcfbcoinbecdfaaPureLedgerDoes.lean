/- Whatever is opened, closed, pushed, held, and ended is as the document has it. -/
import Derived.Test.YtcfbcoinbecdfaaLdLRD
import Derived.Test.YtcfbcoinbecdfaaLdCM
import Derived.Test.YtcfbcoinbecdfaaLdLF
import Derived.Test.YtcfbcoinbecdfaaLdLL
import Derived.Test.YtcfbcoinbecdfaaQLdoesx18
import Derived.Test.YtcfbcoinbecdfaaQLdoesx10
set_option linter.unusedVariables false
namespace Go.Proofs.Ytcfbcoinbecdfaa.B
open Go.RowKit Go.Proofs.Ytcfbcoinbecdfaa.P Go.Proofs.YtcfbcoinbecdfaaW.PrintWords
theorem lb_of {l : List S25} (g : ∀ y ∈ l, G25 y) : LB l := fun c hc => by
  obtain ⟨a0, a1, a2, a3, a4, ⟨_, a5⟩, _⟩ := g c hc
  exact ⟨cb_of (g c hc), wf_u64 a0, fun h hh => wf_u64 (a5 h hh).1⟩
def Small (l : List S25) : Prop := l.length ≤ 1000 ∧ ∀ c ∈ l, c.f5.length ≤ 1000
theorem small_nil : Small [] := ⟨by simp, fun x hx => by simp at hx⟩
theorem small_ok {l : List S25} (hg : LB l) (ok : lok l = true) : Small l := by
  obtain ⟨h1, h2⟩ := lok_small hg ok
  exact ⟨by omega, h2⟩
theorem small_upd {l : List S25} {id : Int} {c d : S25} (h : Small l) (hc : look lk id l = some c) (hd : d.f5.length ≤ 1000) : Small (upd lk id (fun _ => d) l) := by
  obtain ⟨a, b, e1, e2, e3, e4⟩ := look_split hc
  rw [e4]
  rw [e1] at h
  obtain ⟨h1, h2⟩ := h
  refine ⟨by rw [List.length_append, List.length_cons] at h1 ⊢; exact h1, fun x hx => ?_⟩
  rw [List.mem_append, List.mem_cons] at hx
  rcases hx with hx | rfl | hx
  · exact h2 x (List.mem_append_left _ hx)
  · exact hd
  · exact h2 x (List.mem_append_right _ (List.mem_cons_of_mem _ hx))
theorem lopen_small {l : List S25} {c : S25} (hg : LB l) (hc : LB [c]) : Small (lopen l c).1 := by
  by_cases k : (lopen l c).2 = 0
  · obtain ⟨a1, a2, a3, a4, a5, a6, a7, a8⟩ := lopen_ok k
    rw [a8]
    exact small_ok (lb_ins hg hc) a7
  · have : (lopen l c).1 = [] := by
      unfold lopen at k ⊢
      split
      · rename_i q
        rw [if_pos q] at k
        split
        · rfl
        · rename_i q2
          rw [if_neg q2] at k
          split
          · rfl
          · rename_i q3
            rw [if_neg q3] at k
            split
            · rename_i q4
              rw [if_pos q4] at k
              exact absurd rfl k
            · rfl
      · rfl
    rw [this]
    exact small_nil
theorem lchange_small {l : List S25} {id : Int} {hw : S25 → S25 × Int} (hg : LB l) (hs : ∀ c, c.f5.length ≤ 64 → (hw c).2 = 0 → (hw c).1.f5.length ≤ 1000) : Small (lchange l id hw).1 := by
  unfold lchange
  by_cases ok : lok l = true
  case neg => rw [if_neg ok]; exact small_nil
  rw [if_pos ok]
  cases e : look lk id l with
  | none => exact small_nil
  | some c =>
    dsimp only
    by_cases q : (hw c).2 = 0
    · rw [if_pos q]
      exact small_upd (small_ok hg ok) e (hs c (cok_len c (((lok_iff (lb_cb hg)).1 ok).2.1 c (look_some e).1)) q)
    · rw [if_neg q]; exact small_nil
theorem lhold_small {l : List S25} {id hold n : Int} (hg : LB l) : Small (lhold l id hold n).1 := by
  unfold lhold
  refine lchange_small hg (fun c hc e => ?_)
  unfold lholdc at e ⊢
  by_cases q : (lwhere l hold).2 = 0
  · rw [if_pos q] at e; cases e
  · rw [if_neg q] at e ⊢
    exact (chold_stays c hold n hc e).2
theorem lend_small {l : List S25} {hold : Int} {paid : Bool} (hg : LB l) : Small (lend l hold paid).1 := by
  unfold lend
  by_cases ok : lok l = true
  case neg => rw [if_neg ok]; exact small_nil
  rw [if_pos ok]
  obtain ⟨h1, h2, h3, h4, h5⟩ := (lok_iff (lb_cb hg)).1 ok
  cases e : lidx hold l with
  | none => exact small_nil
  | some j =>
    obtain ⟨j1, j2, j3⟩ := lidx_some (z := z25) e
    obtain ⟨x, hx⟩ := Option.isSome_iff_exists.1 j3
    dsimp only
    refine small_upd (small_ok hg ok) (look_mem h3 j2) ?_
    have hcl := cok_len _ (h2 _ j2)
    have hdl := del_length hx
    rw [cend_some (h2 _ j2) hx]
    show (del hk hold (l.getD j z25).f5).length ≤ 1000
    omega
theorem self_loop (l : List S25) (hl : l.length ≤ 1000) (h5 : ∀ c ∈ l, c.f5.length ≤ 1000) : ∀ (xs : List S25) (i : Nat), l.drop i = xs → Ev (fun k => damsonref10_Same.l0 k l l (l.length : Int) (i : Int)) true
  | [], i, h => by
    have hi := drop_nil h
    exact Ev.step (fun k => by rw [damsonref10_Same.l0]) (ev_neg (by omega) (ev_some rfl))
  | x :: xs, i, h => by
    have hi := drop_lt h
    have ih := self_loop l hl h5 xs (i + 1) (drop_next h)
    have hx := h5 x (drop_mem h)
    refine Ev.step (fun k => by rw [damsonref10_Same.l0]) ?_
    rw [drop_rd25 h, next_i hi (by omega)]
    exact ev_pos (by omega) (ev_pos (by omega) (ev_pos (by omega) (ev_pos (by omega) (Ev.bind (rsame_refl x (by omega)) (ev_pos rfl ih)))))
theorem self_ev (l : List S25) (h : Small l) : Ev (fun k => damsonref10_Same.f k l l) true := by
  unfold damsonref10_Same.f
  exact ev_pos rfl (self_loop l h.1 h.2 l 0 rfl)
theorem ledgerDoes : damsonlaw10_LedgerDoes.Pure := by
  intro l c id hold n paid gl gc wi wh wn
  have hg := lb_of gl.2
  have hc : LB [c] := lb_of (fun y hy => by have : y = c := (by simpa using hy); rw [this]; exact gc)
  have n0 := (wf_u64 wn).1
  have hh := wf_u64 wh
  apply Ev.rounds
  unfold damsonlaw10_LedgerDoes.f damsonlaw10_LedgerDoes.g
  obtain ⟨b1, f1, q1⟩ := few_ev l gl.1
  refine Ev.bind (Ev.of damsonlaw10_live.mono live10) (ev_pos rfl (Ev.bind f1 (ev_if (fun e1 => ev_if (fun n1 => ?_) (fun _ => ev_some rfl)) (fun _ => ev_some rfl))))
  obtain ⟨t1, t2⟩ := q1.1 e1
  have zl : Small l := ⟨by omega, fun x hx => by have := t2 x hx; omega⟩
  unfold damsonlaw10_LedgerDoes.b
  have sc : Small (lclose l id).1 := lchange_small hg (fun c _ e => (cclose_stays c e).2)
  have sp : Small (lpush l id n).1 := lchange_small hg (fun c h e => (cpush_stays c n h e).2)
  refine Ev.bind (rcopyl_ev l zl.1 zl.2) (Ev.bind (lopen_ev l c hg hc) (Ev.bind (ropen10_ev l c hg hc) (Ev.bind (lclose_ev l id hg) (Ev.bind (rclose10_ev l id hg) (Ev.bind (lpush_ev l id n hg n0) (Ev.bind (rpush10_ev l id n hg n0) (Ev.bind (lhold_ev l id hold n hg hh n0) (Ev.bind (rhold10_ev l id hold n hg n0) (Ev.bind (lend_ev l hold paid hg hh) (Ev.bind (rend10_ev l hold paid hg) ?_))))))))))
  refine Ev.bind (self_ev _ (lopen_small hg hc)) (Ev.bind (self_ev _ sc) (Ev.bind (self_ev _ sp) (Ev.bind (self_ev _ (lhold_small hg)) (Ev.bind (self_ev _ (lend_small hg)) (Ev.bind (self_ev _ zl) ?_)))))
  exact ev_pos ⟨rfl, rfl, rfl, rfl, rfl, rfl, rfl, rfl, rfl, rfl, rfl, rfl⟩ (ev_some rfl)
end Go.Proofs.Ytcfbcoinbecdfaa.B
theorem Go.Proofs.Ytcfbcoinbecdfaa.Pure.LedgerDoes : Go.Proofs.Ytcfbcoinbecdfaa.P.damsonlaw10_LedgerDoes.Pure := Go.Proofs.Ytcfbcoinbecdfaa.B.ledgerDoes
