/- Plain laws of the package ledger: what opening a channel leaves. -/
import Derived.Test.YtcfbcoinbecdfaaLdLP
import Derived.Test.YtcfbcoinbecdfaaQLdoesx6
import Derived.Test.YtcfbcoinbecdfaaQLdoesx5
import Derived.Test.YtcfbcoinbecdfaaQLdoesx4
set_option linter.unusedVariables false
namespace Go.Proofs.Ytcfbcoinbecdfaa.B
open Go.RowKit Go.Proofs.Ytcfbcoinbecdfaa.P Go.Proofs.YtcfbcoinbecdfaaW.PrintWords
def lopen (l : List S25) (c : S25) : List S25 × Int := if cok c = true ∧ c.f6 = true ∧ c.f5.length = 0 ∧ lok l = true then (if (look lk c.f0 l).isSome = true then ([], 6) else if l.length = 32 then ([], 7) else if lok (ins lk c l) = true then (ins lk c l, 0) else ([], 8)) else ([], 1)
theorem owns_some {l : List S25} (h1 : l.length ≤ 1000) (h2 : ∀ c ∈ l, c.f5.length ≤ 1000) : ledger_owns.f l = some l := by
  unfold ledger_owns.f
  rw [if_pos ⟨h1, List.all_eq_true.2 (fun c hc => decide_eq_true (h2 c hc))⟩]
theorem lok_owns {l : List S25} (hg : ∀ c ∈ l, CB c) (ok : lok l = true) : ledger_owns.f l = some l := by
  obtain ⟨h1, h2, _⟩ := (lok_iff hg).1 ok
  exact owns_some (by omega) (fun c hc => by have := cok_len c (h2 c hc); omega)
theorem lb_ins {l : List S25} {c : S25} (hg : LB l) (hc : LB [c]) : LB (ins lk c l) := fun x hx => by
  rcases mem_ins.1 hx with rfl | hx
  · exact hc x (by simp)
  · exact hg x hx
theorem lopen_ev (l : List S25) (c : S25) (hg : LB l) (hc : LB [c]) : Ev (fun k => ledger_Open.g k l c) (lopen l c) := by
  unfold ledger_Open.g lopen
  refine Ev.bind (ccheck_ev c (hc c (by simp)).1) ?_
  by_cases k1 : cok c = true
  case neg => rw [if_neg k1, if_neg (fun h => k1 h.1)]; exact ev_neg (by decide) (ev_some rfl)
  rw [if_pos k1]
  refine ev_pos rfl ?_
  by_cases k2 : c.f6 = true
  case neg => rw [if_neg (fun h => k2 h.2.1)]; exact ev_neg k2 (ev_some rfl)
  refine ev_pos k2 ?_
  by_cases k3 : 0 < c.f5.length
  · rw [if_neg (fun h => by omega)]; exact ev_pos k3 (ev_some rfl)
  refine ev_neg k3 (Ev.bind (lcheck_ev l hg) ?_)
  unfold lchk
  by_cases k4 : lok l = true
  case neg => rw [if_neg k4, if_neg (fun h => k4 h.2.2.2)]; exact ev_neg (by decide) (ev_some rfl)
  rw [if_pos k4, if_pos ⟨k1, k2, by omega, k4⟩]
  obtain ⟨h1, h2, h3, h4, h5⟩ := (lok_iff (lb_cb hg)).1 k4
  refine ev_pos rfl (Ev.bind (lsearch_ev l c.f0 h3 (by omega)) ?_)
  refine ev_ite (fun _ => ev_some rfl) (fun _ => ev_ite (fun _ => ev_some rfl) (fun _ => ?_))
  rw [lok_owns (lb_cb hg) k4]
  have hp := pos_le (key := lk) c.f0 l
  refine Ev.bind (ev_some rfl) (ev_pos ⟨by omega, by omega⟩ ?_)
  simp only [Int.toNat_natCast]
  rw [ins_eq (key := lk) c l]
  refine Ev.bind (lcheck_ev _ (lb_ins hg hc)) ?_
  unfold lchk
  by_cases k5 : lok (ins lk c l) = true
  · rw [if_pos k5, if_pos k5]; exact ev_pos rfl (ev_some rfl)
  · rw [if_neg k5, if_neg k5]; exact ev_neg (by decide) (ev_some rfl)
theorem lopen_ok {l : List S25} {c : S25} (h : (lopen l c).2 = 0) : cok c = true ∧ c.f6 = true ∧ c.f5.length = 0 ∧ lok l = true ∧ look lk c.f0 l = none ∧ l.length ≠ 32 ∧ lok (ins lk c l) = true ∧ lopen l c = (ins lk c l, 0) := by
  unfold lopen at h ⊢
  by_cases k1 : cok c = true ∧ c.f6 = true ∧ c.f5.length = 0 ∧ lok l = true
  case neg => rw [if_neg k1] at h; cases h
  rw [if_pos k1] at h ⊢
  by_cases k2 : (look lk c.f0 l).isSome = true
  · rw [if_pos k2] at h; cases h
  rw [if_neg k2] at h ⊢
  by_cases k3 : l.length = 32
  · rw [if_pos k3] at h; cases h
  rw [if_neg k3] at h ⊢
  by_cases k4 : lok (ins lk c l) = true
  case neg => rw [if_neg k4] at h; cases h
  rw [if_pos k4]
  refine ⟨k1.1, k1.2.1, k1.2.2.1, k1.2.2.2, ?_, k3, k4, rfl⟩
  cases e : look lk c.f0 l with
  | none => rfl
  | some x => rw [e] at k2; simp at k2
end Go.Proofs.Ytcfbcoinbecdfaa.B
