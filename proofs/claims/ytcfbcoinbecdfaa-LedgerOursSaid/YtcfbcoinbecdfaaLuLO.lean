/- Plain laws of the package ledger: how much is ours, and held. -/
import Derived.Test.YtcfbcoinbecdfaaLuLP
import Derived.Test.YtcfbcoinbecdfaaQLoursx7
set_option linter.unusedVariables false
namespace Go.Proofs.Ytcfbcoinbecdfaa.B
open Go.RowKit Go.Proofs.Ytcfbcoinbecdfaa.P Go.Proofs.YtcfbcoinbecdfaaW.PrintWords
def cheld0 (c : S25) : Int × Int := if cok c = true then (tot c.f5, 0) else (0, 1)
theorem held0_ev (c : S25) (g : CB c) : Ev (fun k => channel_Held.f k c.f0 c.f1 c.f2 c.f3 c.f4 c.f5 c.f6) (cheld0 c) := by
  unfold channel_Held.f
  obtain ⟨g1, g2, g3, g4, gn⟩ := g
  refine Ev.bind (sums_ev c g1 g2 g4 gn) (ev_some ?_)
  unfold csums cheld0
  split <;> rfl
/-- What is ours in one. -/
def cloc (c : S25) : Int := if c.f6 = true then c.f1 else 0
def lloc : List S25 → Int
  | [] => 0
  | c :: cs => cloc c + lloc cs
def lheld : List S25 → Int
  | [] => 0
  | c :: cs => tot c.f5 + lheld cs
theorem ours_loop (l : List S25) (hl : l.length ≤ 32) (hok : ∀ c ∈ l, cok c = true) (hg : ∀ c ∈ l, CB c) : ∀ (ys : List S25) (i : Nat) (a b : Int), l.drop i = ys → 0 ≤ a → 0 ≤ b → a + b + lsum ys ≤ 4611686018427387904 →
    Ev (fun k => ledger_Ours.l0 k a b l (l.length : Int) (i : Int)) (a + lloc ys, b + lheld ys, 0)
  | [], i, a, b, h, ha, hb, hs => by
    have hi := drop_nil h
    refine Ev.step (fun k => by rw [ledger_Ours.l0]) (ev_neg (by omega) (ev_some ?_))
    show (a, b, (0 : Int)) = (a + 0, b + 0, 0)
    rw [Int.add_zero, Int.add_zero]
  | c :: cs, i, a, b, h, ha, hb, hs => by
    have hi := drop_lt h
    have hm := drop_mem h
    obtain ⟨g1, g2, g3, g4, gn⟩ := hg c hm
    have ht := tot_nonneg gn
    have hcs : 0 ≤ lsum cs := lsum_nonneg (fun x hx => hg x (List.mem_of_mem_drop (i := i) (by rw [h]; exact List.mem_cons_of_mem _ hx)))
    have e1 : lloc (c :: cs) = cloc c + lloc cs := rfl
    have e2 : lheld (c :: cs) = tot c.f5 + lheld cs := rfl
    have e3 : lsum (c :: cs) = ctot c + lsum cs := rfl
    rw [e3] at hs
    unfold ctot at hs
    refine Ev.step (fun k => by rw [ledger_Ours.l0]) (ev_pos (by omega) (ev_pos (by omega) (ev_pos (by omega) ?_)))
    rw [drop_rd25 h, next_i hi (by omega)]
    refine Ev.bind (held0_ev c (hg c hm)) ?_
    unfold cheld0
    rw [if_pos (hok c hm), e1, e2]
    unfold cloc
    refine ev_pos rfl ?_
    rw [u64w (n := b + (tot c.f5, (0 : Int)).1) (by show 0 ≤ b + tot c.f5; omega) (by show b + tot c.f5 < _; omega)]
    by_cases o : c.f6 = true
    · rw [if_pos o]
      refine ev_pos o ?_
      rw [u64w (by omega) (by omega)]
      exact ev_eq (ours_loop l hl hok hg cs (i + 1) (a + c.f1) (b + tot c.f5) (drop_next h) (by omega) (by omega) (by omega)) (by rw [Int.add_assoc, Int.add_assoc])
    · rw [if_neg o]
      refine ev_neg o ?_
      exact ev_eq (ours_loop l hl hok hg cs (i + 1) a (b + tot c.f5) (drop_next h) (by omega) (by omega) (by omega)) (by rw [Int.zero_add, Int.add_assoc])
def lours (l : List S25) : Int × Int × Int := if lok l = true then (lloc l, lheld l, 0) else (0, 0, 1)
theorem lours_ev (l : List S25) (hg : LB l) : Ev (fun k => ledger_Ours.f k l) (lours l) := by
  unfold ledger_Ours.f lours
  refine Ev.bind (lcheck_ev l hg) ?_
  unfold lchk
  by_cases ok : lok l = true
  · rw [if_pos ok, if_pos ok]
    obtain ⟨h1, h2, h3, h4, h5⟩ := (lok_iff (lb_cb hg)).1 ok
    refine ev_pos rfl (ev_eq (ours_loop l h1 h2 (lb_cb hg) l 0 0 0 rfl (by omega) (by omega) (by omega)) ?_)
    rw [Int.zero_add, Int.zero_add]
  · rw [if_neg ok, if_neg ok]
    exact ev_neg (by decide) (ev_some rfl)
end Go.Proofs.Ytcfbcoinbecdfaa.B
