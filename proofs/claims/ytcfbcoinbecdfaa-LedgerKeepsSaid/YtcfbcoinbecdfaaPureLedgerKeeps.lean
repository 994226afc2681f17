/- Whatever is pushed, held, ended, and closed, channels may be, all of all is as much as it was, and each hold is in one of them. -/
import Derived.Test.YtcfbcoinbecdfaaLkLHE
import Derived.Test.YtcfbcoinbecdfaaLkLK
import Derived.Test.YtcfbcoinbecdfaaLkLW
import Derived.Test.YtcfbcoinbecdfaaLkLF
import Derived.Test.YtcfbcoinbecdfaaLkLL
import Derived.Test.YtcfbcoinbecdfaaQLkeepsx9
set_option linter.unusedVariables false
namespace Go.Proofs.Ytcfbcoinbecdfaa.B
open Go.RowKit Go.Proofs.Ytcfbcoinbecdfaa.P Go.Proofs.YtcfbcoinbecdfaaW.PrintWords
theorem lall_loop (l : List S25) (hl : l.length ≤ 32) (hok : ∀ c ∈ l, cok c = true) (hg : ∀ c ∈ l, CB c) : ∀ (ys : List S25) (i : Nat) (s : Int), l.drop i = ys → 0 ≤ s → s + lsum ys ≤ 4611686018427387904 →
    Ev (fun k => damsonlaw10_all.l0 k s l (l.length : Int) (i : Int)) (s + lsum ys)
  | [], i, s, h, h0, h1 => by
    have hi := drop_nil h
    refine Ev.step (fun k => by rw [damsonlaw10_all.l0]) (ev_neg (by omega) (ev_some ?_))
    show s = s + 0
    omega
  | c :: cs, i, s, h, h0, h1 => by
    have hi := drop_lt h
    have hm := drop_mem h
    have hc := ctot_nonneg (hg c hm)
    have hcs : 0 ≤ lsum cs := lsum_nonneg (fun x hx => hg x (List.mem_of_mem_drop (i := i) (by rw [h]; exact List.mem_cons_of_mem _ hx)))
    have e3 : lsum (c :: cs) = ctot c + lsum cs := rfl
    rw [e3] at h1
    refine Ev.step (fun k => by rw [damsonlaw10_all.l0]) (ev_pos (by omega) (ev_pos (by omega) (ev_pos (by omega) ?_)))
    rw [drop_rd25 h, next_i hi (by omega), e3]
    refine Ev.bind (all0_ev c (hg c hm)) ?_
    unfold call0
    rw [if_pos (hok c hm)]
    refine ev_pos rfl ?_
    show Ev (fun n => damsonlaw10_all.l0 n (IntKind.u64.wrap (s + ctot c)) l (l.length : Int) ((i + 1 : Nat) : Int)) _
    rw [u64w (by omega) (by omega)]
    exact ev_eq (lall_loop l hl hok hg cs (i + 1) (s + ctot c) (drop_next h) (by omega) (by omega)) (by rw [Int.add_assoc])
theorem lall_ev (l : List S25) (hg : LB l) (ok : lok l = true) : Ev (fun k => damsonlaw10_all.f k l) (lsum l) := by
  obtain ⟨h1, h2, h3, h4, h5⟩ := (lok_iff (lb_cb hg)).1 ok
  unfold damsonlaw10_all.f
  exact ev_eq (lall_loop l h1 h2 (lb_cb hg) l 0 0 rfl (by omega) (by omega)) (by rw [Int.zero_add])
theorem held_sum {l a b m : List S25} {id hold n : Int} {c d : S25} (H : Held10 l id hold n c d a b m) : lsum m = lsum l ∧ m.length = l.length := by
  have hct : ctot d = ctot c := by
    have : tot d.f5 = n + tot c.f5 := by rw [H.d_]; exact tot_ins ⟨hold, n⟩ c.f5
    have e1 : d.f1 = c.f1 - n := by rw [H.d_]; rfl
    have e2 : d.f2 = c.f2 := by rw [H.d_]; rfl
    unfold ctot; omega
  rw [H.l_, H.m_, lsum_app, lsum_app]
  have q1 : lsum (c :: b) = ctot c + lsum b := rfl
  have q2 : lsum (d :: b) = ctot d + lsum b := rfl
  exact ⟨by omega, by simp⟩
/-- What one round leaves: a row as good, or nothing and why. -/
def Round (l : List S25) (a : List S25 × Int) : Prop := (a.2 = 0 → lok a.1 = true ∧ LB a.1 ∧ lsum a.1 = lsum l ∧ a.1.length = l.length) ∧ (a.2 ≠ 0 → a.1 = [])
theorem lb_nil : LB [] := fun x hx => by simp at hx
theorem one_ev (l : List S25) (b id hold n : Int) (hg : LB l) (hh : 0 ≤ hold ∧ hold < 18446744073709551616) (n0 : 0 ≤ n) : ∃ a, Ev (fun k => damsonlaw10_LedgerKeeps.one k l b id hold n) a ∧ Round l a := by
  unfold damsonlaw10_LedgerKeeps.one
  by_cases q1 : b % 5 = 0 ∨ b % 5 = 1
  · simp only [if_pos q1]
    by_cases ke : (lhold l id hold n).2 = 0
    · obtain ⟨c, d, a, b', m, H⟩ := lhold_held hg hh ke
      have hdm : d ∈ m := by rw [H.m_]; simp
      have hw : lwhere m hold = (id, 0) := by
        rw [lwhere_of (lb_cb H.lbm) H.okm hdm (look_iff.1 (by rw [H.look]; rfl))]
        have : d.f0 = id := by rw [H.d_]; exact H.id_
        rw [this]
      refine ⟨(m, 0), Ev.bind (ev_eq (lhold_ev l id hold n hg hh n0) H.v) (Ev.bind (ev_eq (lwhere_ev m hold H.lbm hh) hw) (ev_pos (fun _ => ⟨rfl, rfl⟩) (ev_some rfl))), fun _ => ⟨H.okm, H.lbm, held_sum H⟩, fun h => absurd rfl h⟩
    · have h0 := lhold_err ke
      refine ⟨lhold l id hold n, Ev.bind (lhold_ev l id hold n hg hh n0) (Ev.bind (lwhere_ev _ hold (by rw [h0]; exact lb_nil) hh) (ev_pos (fun e => absurd e ke) (ev_some rfl))), fun e => absurd e ke, fun _ => h0⟩
  simp only [if_neg q1]
  by_cases q2 : b % 5 = 2
  · simp only [if_pos q2]
    obtain ⟨paid, hp⟩ : ∃ paid, paid = (b % 2 == 0) := ⟨_, rfl⟩
    rw [← hp]
    by_cases ke : (lend l hold paid).2.2 = 0
    · obtain ⟨ok, c, x, hc, hx⟩ := lend_ok hg ke
      obtain ⟨k1, k2, k3, k4, k5⟩ := lok_end (paid := paid) hg ok hc hx
      have hw : lwhere (lend l hold paid).1 hold = (0, 5) := lwhere_no k1 k5
      refine ⟨((lend l hold paid).1, (lend l hold paid).2.2), Ev.bind (lend_ev l hold paid hg hh) (Ev.bind (ev_eq (lwhere_ev _ hold k2 hh) hw) (ev_pos (fun _ => rfl) (ev_some rfl))), fun _ => ⟨k1, k2, k3, k4⟩, fun h => absurd ke h⟩
    · have h0 := lend_err ke
      refine ⟨((lend l hold paid).1, (lend l hold paid).2.2), Ev.bind (lend_ev l hold paid hg hh) (Ev.bind (lwhere_ev _ hold (by rw [h0]; exact lb_nil) hh) (ev_pos (fun e => absurd e ke) (ev_some rfl))), fun e => absurd e ke, fun _ => h0⟩
  simp only [if_neg q2]
  by_cases q3 : b % 5 = 3
  · simp only [if_pos q3]
    exact ⟨lpush l id n, lpush_ev l id n hg n0, fun e => lchange_keep hg (fun c hc he => cpush_keep (lb_mem hg hc) n0 he) e, fun e => lchange_err e⟩
  · simp only [if_neg q3]
    exact ⟨lclose l id, lclose_ev l id hg, fun e => lchange_keep hg (fun c hc he => cclose_keep (lb_mem hg hc) he) e, fun e => lchange_err e⟩
theorem rounds_ev (S : Int) : ∀ (zs : List (Int × Int × Int × Int)) (l : List S25), (∀ z ∈ zs, (0 ≤ z.2.2.1 ∧ z.2.2.1 < 18446744073709551616) ∧ 0 ≤ z.2.2.2) → LB l → lok l = true → lsum l = S → Ev (fun k => damsonlaw10_LedgerKeeps.rounds k S zs l) true
  | [], l, _, _, _, _ => by
    show Ev (fun _ => some true) true
    exact ev_some rfl
  | z :: zs, l, hz, hg, ok, hs => by
    obtain ⟨hh, n0⟩ := hz z List.mem_cons_self
    have hz' : ∀ y ∈ zs, (0 ≤ y.2.2.1 ∧ y.2.2.1 < 18446744073709551616) ∧ 0 ≤ y.2.2.2 := fun y hy => hz y (List.mem_cons_of_mem _ hy)
    obtain ⟨a, h1, h2, h3⟩ := one_ev l z.1 z.2.1 z.2.2.1 z.2.2.2 hg hh n0
    unfold damsonlaw10_LedgerKeeps.rounds
    refine Ev.bind h1 (ev_if (fun e => ?_) (fun e => ?_))
    · obtain ⟨k1, k2, k3, k4⟩ := h2 e
      have hck : lchk a.1 = 0 := by unfold lchk; rw [if_pos k1]
      exact Ev.bind (ev_eq (lcheck_ev a.1 k2) hck) (Ev.bind (lall_ev a.1 k2 k1) (ev_pos ⟨rfl, by omega, k4⟩ (rounds_ev S zs a.1 hz' k2 k1 (by omega))))
    · exact ev_pos (by rw [h3 e]; rfl) (rounds_ev S zs l hz' hg ok hs)
theorem ledgerKeeps : damsonlaw10_LedgerKeeps.Pure := by
  intro l l1 l2 l3 l4 gl g1 g2 g3 g4
  have hg := lb_of gl.2
  apply Ev.rounds
  unfold damsonlaw10_LedgerKeeps.f
  have hu : (l1.all fun y => decide (0 ≤ y ∧ y ≤ 255)) = true := List.all_eq_true.2 (fun y hy => decide_eq_true (by
    have h := g1.2 y hy
    simp [Lit.wf, IntKind.min, IntKind.max, IntKind.signed, IntKind.bits] at h
    omega))
  refine ev_pos hu ?_
  unfold damsonlaw10_LedgerKeeps.g
  obtain ⟨b1, f1, q1⟩ := few_ev l gl.1
  refine Ev.bind (Ev.of damsonlaw10_live.mono live10) (ev_pos rfl (Ev.bind f1 (ev_if (fun e1 => ev_if (fun e2 => ?_) (fun _ => ev_some rfl)) (fun _ => ev_some rfl))))
  refine Ev.bind (lcheck_ev l hg) ?_
  unfold lchk
  by_cases ok : lok l = true
  case neg => rw [if_neg ok]; exact ev_neg (by decide) (ev_some rfl)
  rw [if_pos ok]
  refine ev_pos rfl (Ev.bind (lall_ev l hg ok) (rounds_ev (lsum l) _ l (fun z hz => ?_) hg ok rfl))
  have m1 := List.of_mem_zip (show (z.1, z.2) ∈ l1.zip (l2.zip (l3.zip l4)) from hz)
  have m2 := List.of_mem_zip (show (z.2.1, z.2.2) ∈ l2.zip (l3.zip l4) from m1.2)
  have m3 := List.of_mem_zip (show (z.2.2.1, z.2.2.2) ∈ l3.zip l4 from m2.2)
  exact ⟨wf_u64 (g3.2 _ m3.1), (wf_u64 (g4.2 _ m3.2)).1⟩
end Go.Proofs.Ytcfbcoinbecdfaa.B
theorem Go.Proofs.Ytcfbcoinbecdfaa.Pure.LedgerKeeps : Go.Proofs.Ytcfbcoinbecdfaa.P.damsonlaw10_LedgerKeeps.Pure := Go.Proofs.Ytcfbcoinbecdfaa.B.ledgerKeeps
