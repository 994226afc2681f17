/- Paid once at the most. -/
import Derived.Test.YtlpdgagohafmaaaOnceVE
import Derived.Test.YtlpdgagohafmaaaQOncex5
set_option linter.unusedVariables false
namespace Go.Proofs.Ytlpdgagohafmaaa.B
open Go.RowKit Go.Proofs.Ytlpdgagohafmaaa.P Go.Proofs.YtlpdgagohafmaaaW.PrintWords
theorem end_ok {l : List S34} {h tick n st : Int} (e : (iend l h tick n st).2 = 0) : iok l = true ∧ ∃ x, look ik h l = some x ∧ inow x tick = 1 ∧ ¬ n < x.f1 ∧ (iend l h tick n st).1 = upd ik h (iset st) l := by
  unfold iend at e ⊢
  by_cases c : iok l = true
  · rw [if_pos c] at e ⊢
    cases hk : look ik h l with
    | none => rw [hk] at e; exact absurd (show (5 : Int) = 0 from e) (by decide)
    | some x =>
      rw [hk] at e
      simp only at e ⊢
      by_cases c1 : inow x tick = 4
      · rw [if_pos c1] at e; exact absurd e (by decide)
      · rw [if_neg c1] at e ⊢
        by_cases c2 : inow x tick = 1
        · rw [if_pos c2] at e ⊢
          by_cases c3 : n < x.f1
          · rw [if_pos c3] at e; exact absurd e (by decide)
          · rw [if_neg c3]
            exact ⟨c, x, rfl, c2, c3, rfl⟩
        · rw [if_neg c2] at e; exact absurd e (by decide)
  · rw [if_neg c] at e; exact absurd e (by decide)
theorem end_no {l : List S34} {h tick n st : Int} (e : (iend l h tick n st).2 ≠ 0) : (iend l h tick n st).1 = [] ∧ (istate l h tick = (1, 0) → (iend l h tick n st).2 = 9) := by
  unfold iend at e ⊢
  unfold istate
  by_cases c : iok l = true
  · rw [if_pos c] at e ⊢
    rw [if_pos c]
    cases hk : look ik h l with
    | none => exact ⟨rfl, fun h => by simp at h⟩
    | some x =>
      rw [hk] at e
      simp only at e ⊢
      by_cases c1 : inow x tick = 4
      · rw [if_pos c1]; exact ⟨rfl, fun h => by rw [c1] at h; simp at h⟩
      · rw [if_neg c1] at e ⊢
        by_cases c2 : inow x tick = 1
        · rw [if_pos c2] at e ⊢
          by_cases c3 : n < x.f1
          · rw [if_pos c3]; exact ⟨rfl, fun _ => rfl⟩
          · rw [if_neg c3] at e; exact absurd rfl e
        · rw [if_neg c2]
          exact ⟨rfl, fun h => absurd (by injection h) c2⟩
  · rw [if_neg c, if_neg c]; exact ⟨rfl, fun h => by simp at h⟩
theorem iok_upd {l : List S34} {h st : Int} (hi : iok l = true) (h1 : 1 ≤ st) (h3 : st ≤ 3) : iok (upd ik h (iset st) l) = true := by
  obtain ⟨a1, a2, a3⟩ := iok_iff.1 hi
  refine iok_iff.2 ⟨by rw [upd_length]; exact a1, srt_upd (f := iset st) (fun _ => rfl) a2, fun y hy => ?_⟩
  rcases mem_upd hy with hy | ⟨z, hz, _, rfl⟩
  · exact a3 y hy
  · have := a3 z hz
    unfold igood at this ⊢
    rw [Bool.and_eq_true] at this ⊢
    refine ⟨this.1, ?_⟩
    show (decide (1 ≤ st) && decide (st ≤ 3)) = true
    rw [decide_eq_true h1, decide_eq_true h3]; rfl
theorem look_set {l : List S34} {h st : Int} {x : S34} (hx : look ik h l = some x) : look ik h (upd ik h (iset st) l) = some (iset st x) := by
  rw [look_upd h (iset st) (fun _ => rfl), if_pos rfl, hx]; rfl
theorem now_set (x : S34) {st : Int} (h : st ≠ 1) (t : Int) : inow (iset st x) t = st := by
  unfold inow
  rw [if_neg (fun z => h z.1)]; rfl
theorem end_set {l : List S34} {h st : Int} {x : S34} (hi : iok l = true) (h2 : 2 ≤ st) (h3 : st ≤ 3) (hx : look ik h l = some x) (tick n s2 : Int) : iend (upd ik h (iset st) l) h tick n s2 = ([], 10) := by
  unfold iend
  rw [if_pos (iok_upd hi (by omega) h3), look_set hx]
  simp only [now_set x (show st ≠ 1 by omega)]
  rw [if_neg (by omega), if_neg (by omega)]
theorem once_loop (l : List S34) (h n tick : Int) (x : S34) (hi : iok l = true) (hx : look ik h l = some x) (hu : ∀ y ∈ l, 0 ≤ y.f2 ∧ y.f2 < 18446744073709551616) (hn : ¬ n < x.f1) (ht : inow x tick = 1) :
    ∀ (ys : List S34) (i : Nat), l.drop i = ys → look ik h ys = some x → Ev (fun k => damsonlaw12_InvoiceOnce.l0 k l h n tick l (l.length : Int) (i : Int)) true
  | [], i, hd, hl => by simp [look] at hl
  | y :: ys, i, hd, hl => by
    have hlt := drop_lt hd
    have hlen := (iok_iff.1 hi).1
    refine Ev.step (fun k => by rw [damsonlaw12_InvoiceOnce.l0]) ?_
    refine ev_pos (by omega) (ev_pos (by omega) (ev_pos (by omega) ?_))
    rw [drop_rd34 hd]
    unfold look at hl
    by_cases c : y.f0 = h
    · rw [if_pos (show ik y = h from c)] at hl
      obtain rfl := Option.some.inj hl
      have hg := (iok_iff.1 hi).2.2 y (look_some hx).1
      obtain ⟨u0, u1⟩ := hu y (look_some hx).1
      have hb : 0 < y.f1 ∧ y.f1 ≤ 4611686018427387904 := by
        unfold igood ibill at hg
        simp only [Bool.and_eq_true, decide_eq_true_eq] at hg
        exact hg.1
      have hs : y.f3 = 1 ∧ ¬ tick > y.f2 := by
        unfold inow at ht
        by_cases q : y.f3 = 1 ∧ tick > y.f2
        · rw [if_pos q] at ht; exact absurd ht (by decide)
        · rw [if_neg q] at ht; exact ⟨ht, fun z => q ⟨ht, z⟩⟩
      refine ev_pos c (Ev.bind (ipay_ev l h _ tick) (Ev.bind (ipay_ev l h n _) (ev_pos (by omega) (ev_pos (by omega) ?_))))
      have e1 : (iend l h tick (IntKind.u64.wrap (y.f1 - 1)) 2).2 = 9 := by
        unfold iend
        rw [if_pos hi, hx]
        simp only [ht]
        rw [if_neg (by decide), if_pos trivial, u64w (by omega) (by omega), if_pos (by omega)]
      refine ev_pos e1 (ev_if (fun _ => ev_some rfl) (fun q => ev_some ?_))
      have hm : mx y.f2 1099511627776 ≤ 9223372036854775808 ∧ y.f2 ≤ mx y.f2 1099511627776 ∧ 0 ≤ mx y.f2 1099511627776 := by unfold mx; split <;> omega
      have e2 : (iend l h (IntKind.u64.wrap (mx y.f2 1099511627776 + 1)) n 2).2 = 13 := by
        rw [u64w (by omega) (by omega)]
        unfold iend
        rw [if_pos hi, hx]
        have e3 : inow y (mx y.f2 1099511627776 + 1) = 4 := by unfold inow; rw [if_pos ⟨hs.1, by omega⟩]
        simp only [e3]
        rw [if_pos trivial]
      rw [e2]; rfl
    · rw [if_neg (show ¬ ik y = h from c)] at hl
      refine ev_neg c ?_
      rw [next_i hlt (by omega)]
      exact once_loop l h n tick x hi hx hu hn ht ys (i + 1) (drop_next hd) hl
theorem invoiceOnce : damsonlaw12_InvoiceOnce.Pure := by
  intro l h n tick later hl w1 w2 w3 w4
  apply Ev.rounds
  unfold damsonlaw12_InvoiceOnce.f
  simp only [few_eq, Option.bind_some]
  refine Ev.bind live12 (ev_pos rfl (ev_if (fun hf => ?_) (fun _ => ev_some rfl)))
  have hlen := ifew_le hf
  refine Ev.bind (istate_ev l h tick) (Ev.bind (ipay_ev l h n tick) (ev_if (fun e => ?_) (fun e => ?_)))
  · obtain ⟨hi, x, hx, ht, hn, hm⟩ := end_ok e
    rw [hm]
    refine Ev.bind (istate_ev _ h later) (Ev.bind (ipay_ev _ h n later) (Ev.bind (icancel_ev _ h later) (Ev.bind (icancel_ev l h tick) ?_)))
    have hg := (iok_iff.1 hi).2.2 x (look_some hx).1
    have hb : 0 < x.f1 ∧ x.f1 ≤ 4611686018427387904 := by
      unfold igood ibill at hg
      simp only [Bool.and_eq_true, decide_eq_true_eq] at hg
      exact hg.1
    have s1 : istate l h tick = (1, 0) := by unfold istate; rw [if_pos hi, hx]; simp only [ht]
    have s2 : istate (upd ik h (iset 2) l) h later = (2, 0) := by
      unfold istate
      rw [if_pos (iok_upd hi (by decide) (by decide)), look_set hx]
      simp only [now_set x (show (2 : Int) ≠ 1 by decide)]
    have s3 : iend l h tick 4611686018427387904 3 = (upd ik h (iset 3) l, 0) := by
      unfold iend
      rw [if_pos hi, hx]
      simp only [ht]
      rw [if_neg (by decide), if_pos trivial, if_neg (by omega)]
    rw [s1, s2, s3, end_set hi (by decide) (by decide) hx later n 2, end_set hi (by decide) (by decide) hx later 4611686018427387904 3]
    refine Ev.bind (ipay_ev _ h n later) ?_
    rw [end_set hi (by decide) (by decide) hx later n 2]
    refine ev_pos rfl (ev_pos rfl (ev_pos rfl (ev_pos rfl (ev_pos rfl (ev_pos rfl (ev_pos rfl ?_))))))
    refine Ev.step (fun k => by rw [damsonlaw12_InvoiceOnce.j0]) (ev_neg (by decide) ?_)
    refine once_loop l h n tick x hi hx (fun y hy => ?_) hn ht l 0 rfl hx
    exact wf_u64 (hl.2 y hy).2.2.1
  · obtain ⟨h1, h2⟩ := end_no e
    rw [h1]
    refine ev_pos rfl (ev_if (fun q => ev_if (fun q2 => ev_some ?_) (fun _ => ev_some rfl)) (fun _ => ev_some rfl))
    rw [h2 (Prod.ext q2 q)]; rfl
end Go.Proofs.Ytlpdgagohafmaaa.B
theorem Go.Proofs.Ytlpdgagohafmaaa.Pure.InvoiceOnce : Go.Proofs.Ytlpdgagohafmaaa.P.damsonlaw12_InvoiceOnce.Pure := Go.Proofs.Ytlpdgagohafmaaa.B.invoiceOnce
