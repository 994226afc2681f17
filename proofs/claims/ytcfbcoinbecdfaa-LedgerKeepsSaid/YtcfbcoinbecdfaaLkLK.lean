/- Plain laws of the package ledger: pushing, and closing, in one of many; all of all. -/
import Derived.Test.YtcfbcoinbecdfaaLkLC
import Derived.Test.YtcfbcoinbecdfaaLkCP
import Derived.Test.YtcfbcoinbecdfaaQLkeepsx9
import Derived.Test.YtcfbcoinbecdfaaQLkeepsx8
set_option linter.unusedVariables false
namespace Go.Proofs.Ytcfbcoinbecdfaa.B
open Go.RowKit Go.Proofs.Ytcfbcoinbecdfaa.P Go.Proofs.YtcfbcoinbecdfaaW.PrintWords
def lpush (l : List S25) (id n : Int) : List S25 × Int := lchange l id (fun c => cpush c n)
theorem lpush_ev (l : List S25) (id n : Int) (hg : LB l) (n0 : 0 ≤ n) : Ev (fun k => ledger_Push.g k l id n) (lpush l id n) := by
  unfold ledger_Push.g lpush
  refine lchange_ev l id (fun k => ledger_Push.how k n) _ hg (fun ok c hc => ?_)
  unfold ledger_Push.how
  exact Ev.bind (push_ev c n (hg c hc).1 n0) (ev_some rfl)
def lclose (l : List S25) (id : Int) : List S25 × Int := lchange l id cclose
theorem lclose_ev (l : List S25) (id : Int) (hg : LB l) : Ev (fun k => ledger_Close.g k l id) (lclose l id) := by
  unfold ledger_Close.g lclose
  refine lchange_ev l id (fun k => ledger_Close.how k) _ hg (fun ok c hc => ?_)
  unfold ledger_Close.how
  exact Ev.bind (close_ev c (hg c hc).1) (ev_some rfl)
theorem lchange_err {l : List S25} {id : Int} {hw : S25 → S25 × Int} (e : (lchange l id hw).2 ≠ 0) : (lchange l id hw).1 = [] := by
  unfold lchange at e ⊢
  by_cases ok : lok l = true
  case neg => rw [if_neg ok]
  rw [if_pos ok] at e ⊢
  cases h : look lk id l with
  | none => rfl
  | some c =>
    rw [h] at e
    dsimp only at e ⊢
    by_cases q : (hw c).2 = 0
    · rw [if_pos q] at e; exact absurd rfl e
    · rw [if_neg q]
/-- What a change must keep. -/
def Keeps (c d : S25) : Prop := cok d = true ∧ LB [d] ∧ d.f0 = c.f0 ∧ ctot d = ctot c ∧ (d.f5.map hk).Sublist (c.f5.map hk)
theorem lchange_keep {l : List S25} {id : Int} {hw : S25 → S25 × Int} (hg : LB l) (hk_ : ∀ c ∈ l, (hw c).2 = 0 → Keeps c (hw c).1) (e : (lchange l id hw).2 = 0) : lok (lchange l id hw).1 = true ∧ LB (lchange l id hw).1 ∧ lsum (lchange l id hw).1 = lsum l ∧ (lchange l id hw).1.length = l.length := by
  unfold lchange at e ⊢
  by_cases ok : lok l = true
  case neg => rw [if_neg ok] at e; cases e
  rw [if_pos ok] at e ⊢
  cases h : look lk id l with
  | none => rw [h] at e; cases e
  | some c =>
    rw [h] at e
    dsimp only at e ⊢
    by_cases q : (hw c).2 = 0
    case neg => rw [if_neg q] at e; exact absurd e q
    rw [if_pos q]
    obtain ⟨a, b, e1, e2, e3, e4⟩ := look_split h
    dsimp only
    rw [e4]
    obtain ⟨k1, k2, k3, k4, k5⟩ := hk_ c (look_some h).1 q
    have hok : LOK (a ++ c :: b) := e1 ▸ (lok_iff (lb_cb hg)).1 ok
    have hlm : LB (a ++ (hw c).1 :: b) := lb_mid (e1 ▸ hg) k2
    refine ⟨(lok_iff (lb_cb hlm)).2 (lok_mid hok k3 k1 k4 (nodup_mid_sub hok.2.2.2.2 k5)), hlm, ?_, ?_⟩
    · rw [e1, lsum_app, lsum_app]
      have q1 : lsum (c :: b) = ctot c + lsum b := rfl
      have q2 : lsum ((hw c).1 :: b) = ctot (hw c).1 + lsum b := rfl
      omega
    · rw [e1]; simp
theorem cpush_keep {c : S25} {n : Int} (g : LB [c]) (n0 : 0 ≤ n) (e : (cpush c n).2 = 0) : Keeps c (cpush c n).1 := by
  obtain ⟨⟨g1, g2, g3, g4, gn⟩, gi, gh⟩ := g c (by simp)
  have e0 : cpushE c n = 0 := by
    unfold cpush at e
    by_cases q : cpushE c n = 0
    · exact q
    · rw [if_neg q] at e; exact e
  have hv : (cpush c n).1 = cwith c (c.f1 + n) (c.f2 - n) c.f5 := by unfold cpush; rw [if_pos e0]
  unfold cpushE at e0
  by_cases q1 : cok c = true ∧ n ≤ 4611686018427387904
  case neg => rw [if_neg q1] at e0; cases e0
  rw [if_pos q1] at e0
  by_cases q2 : c.f6 = true
  case neg => rw [if_neg q2] at e0; cases e0
  rw [if_pos q2] at e0
  by_cases q3 : c.f2 < n
  · rw [if_pos q3] at e0; cases e0
  obtain ⟨⟨a1, a2, a3, a4⟩, ⟨a5, a6⟩, a7, a8, a9, a10⟩ := cok_iff.1 q1.1
  have ht := tot_nonneg gn
  rw [hv]
  refine ⟨cok_iff.2 ⟨⟨a1, a2, a3, a4⟩, ⟨a5, a6⟩, a7, ?_, ?_, ?_⟩, fun x hx => ?_, rfl, ?_, List.Sublist.refl _⟩
  · show c.f1 + n ≤ 4611686018427387904; omega
  · show c.f2 - n ≤ 4611686018427387904; omega
  · show tot c.f5 + (c.f1 + n) + (c.f2 - n) ≤ 4611686018427387904; omega
  · have hx : x = cwith c (c.f1 + n) (c.f2 - n) c.f5 := by simpa using hx
    subst hx
    exact ⟨⟨by show 0 ≤ c.f1 + n; omega, by show 0 ≤ c.f2 - n; omega, g3, g4, gn⟩, gi, gh⟩
  · show tot c.f5 + (c.f1 + n) + (c.f2 - n) = tot c.f5 + c.f1 + c.f2; omega
theorem cclose_keep {c : S25} (g : LB [c]) (e : (cclose c).2 = 0) : Keeps c (cclose c).1 := by
  obtain ⟨⟨g1, g2, g3, g4, gn⟩, gi, gh⟩ := g c (by simp)
  have e0 : ccloseE c = 0 := by
    unfold cclose at e
    by_cases q : ccloseE c = 0
    · exact q
    · rw [if_neg q] at e; exact e
  have hv : (cclose c).1 = ⟨c.f0, c.f1, c.f2, c.f3, c.f4, [], false⟩ := by unfold cclose; rw [if_pos e0]
  unfold ccloseE at e0
  by_cases q1 : cok c = true
  case neg => rw [if_neg q1] at e0; cases e0
  rw [if_pos q1] at e0
  by_cases q2 : c.f6 = true
  case neg => rw [if_neg q2] at e0; cases e0
  rw [if_pos q2] at e0
  by_cases q3 : 0 < c.f5.length
  · rw [if_pos q3] at e0; cases e0
  have h5 : c.f5 = [] := List.length_eq_zero_iff.1 (by omega)
  obtain ⟨⟨a1, a2, a3, a4⟩, ⟨a5, a6⟩, a7, a8, a9, a10⟩ := cok_iff.1 q1
  rw [h5] at a7 a10
  have t0 : tot ([] : List S44) = 0 := rfl
  rw [hv]
  refine ⟨cok_iff.2 ⟨⟨a1, a2, Nat.zero_le _, fun _ => rfl⟩, ⟨srt_nil, fun x hx => by simp at hx⟩, a7, a8, a9, a10⟩, fun x hx => ?_, rfl, ?_, ?_⟩
  · have hx : x = ⟨c.f0, c.f1, c.f2, c.f3, c.f4, [], false⟩ := by simpa using hx
    subst hx
    exact ⟨⟨g1, g2, g3, g4, fun y hy => by simp at hy⟩, gi, fun y hy => by simp at hy⟩
  · show tot ([] : List S44) + c.f1 + c.f2 = tot c.f5 + c.f1 + c.f2
    rw [h5]
  · show (([] : List S44).map hk).Sublist (c.f5.map hk)
    exact List.nil_sublist _
end Go.Proofs.Ytcfbcoinbecdfaa.B
