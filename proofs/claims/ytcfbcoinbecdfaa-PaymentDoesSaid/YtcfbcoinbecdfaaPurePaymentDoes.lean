/- Any payment put in, and ended, and how much is pending. -/
import Derived.Test.YtcfbcoinbecdfaaPdoesPR
import Derived.Test.YtcfbcoinbecdfaaQPdoesx10
set_option linter.unusedVariables false
namespace Go.Proofs.Ytcfbcoinbecdfaa.B
open Go.RowKit Go.Proofs.Ytcfbcoinbecdfaa.P Go.Proofs.YtcfbcoinbecdfaaW.PrintWords
theorem does_l1 (l : List S74) (hl : l.length ≤ 258) (n : Nat) (hn : n ≤ 140737488351232) : ∀ (d i : Nat) (b : List S74), b.length = n → n - i = d → i ≤ n → Ev (fun k => damsonlaw13_PaymentDoes.l1 k l l b true (n : Int) (i : Int)) true
 | 0, i, b, hb, hd, hi => by
  refine Ev.step (fun k => by rw [damsonlaw13_PaymentDoes.l1]) (ev_neg (by omega) (ev_pos rfl (Ev.bind (rpsm_ev l l (by omega)) (ev_some (psm_self l)))))
 | d + 1, i, b, hb, hd, hi => by
  refine Ev.step (fun k => by rw [damsonlaw13_PaymentDoes.l1]) (ev_pos (by omega) (ev_pos (by omega) (ev_pos (by omega) ?_)))
  rw [next_i (n := n) (by omega) hn]
  exact does_l1 l hl n hn d (i + 1) _ (by rw [List.length_set]; exact hb) (by omega) (by omega)
theorem does_l0 (l b : List S74) (hl : l.length ≤ 258) (hb : b.length ≤ 140737488351232) (n : Nat) (hn : n ≤ 140737488351232) : ∀ (d i : Nat) (a : List S74), a.length = n → n - i = d → i ≤ n → Ev (fun k => damsonlaw13_PaymentDoes.l0 k l l a b true (n : Int) (i : Int)) true
 | 0, i, a, ha, hd, hi => by
  refine Ev.step (fun k => by rw [damsonlaw13_PaymentDoes.l0]) (ev_neg (by omega) ?_)
  exact does_l1 l hl b.length hb b.length 0 b rfl (by omega) (by omega)
 | d + 1, i, a, ha, hd, hi => by
  refine Ev.step (fun k => by rw [damsonlaw13_PaymentDoes.l0]) (ev_pos (by omega) (ev_pos (by omega) (ev_pos (by omega) ?_)))
  rw [next_i (n := n) (by omega) hn]
  exact does_l0 l b hl hb n hn d (i + 1) _ (by rw [List.length_set]; exact ha) (by omega) (by omega)
theorem pstart_len (l : List S74) (p : S74) : (pstart l p).1.length ≤ 300 := by
 by_cases e : (pstart l p).2 = 0
 ·obtain ⟨_, _, _, _, m, hm, _, _, hml, _⟩ := pstart_ok e
  rw [hm, ins_length]; omega
 ·rw [pstart_no e]; simp
theorem pend_len (l : List S74) (h : Int) (b : Bool) : (pend l h b).1.length ≤ 300 := by
 by_cases e : (pend l h b).2 = 0
 ·obtain ⟨hi, x, _, _, hm⟩ := pend_ok e
  have := (pok_iff.1 hi).1
  rw [hm, upd_length]; omega
 ·rw [pend_no e]; simp
theorem paymentDoes : damsonlaw13_PaymentDoes.Pure := by
 intro l o p id paid hl ho gp w
 apply Ev.rounds
 unfold damsonlaw13_PaymentDoes.f
 simp only [few_eq, Option.bind_some]
 have core : ∀ v, (v = false → l.length ≤ 258) → Ev (fun k => damsonlaw13_PaymentDoes.j0 k l o id paid v p.f0 p.f1 p.f2 p.f3 p.f4) true := by
  intro v hv
  refine Ev.step (fun k => by rw [damsonlaw13_PaymentDoes.j0]) (ev_if (fun _ => ev_some rfl) (fun hv0 => ?_))
  have hlen := hv (by simpa using hv0)
  have h1 := pstart_len l p
  have h2 := pend_len l id paid
  simp only [List.nil_append, Option.bind_some, List.length_nil]
  refine ev_pos (by omega) (Ev.bind (pstart_ev l p) (Ev.bind (rstart_ev l p) (Ev.bind (pend_ev l id paid) (Ev.bind (rend_ev l id paid) (Ev.bind (pget_ev l id) (Ev.bind (rget_ev l id) (Ev.bind (pheld_ev l id) (Ev.bind (rpheld_ev l id) ?_))))))))
  refine Ev.bind (rpsm_ev _ _ (by omega)) ?_
  rw [psm_self]
  refine ev_pos rfl (ev_pos rfl (Ev.bind (rpsm_ev _ _ (by omega)) ?_))
  rw [psm_self]
  refine ev_pos rfl (ev_pos rfl (ev_pos (by simp) (ev_pos rfl (ev_pos rfl (ev_pos rfl (Ev.bind (pcheck_ev l) (Ev.bind (rpcheck_ev l) (ev_pos rfl (Ev.bind (psm_ev l o (by omega)) (Ev.bind (rpsm_ev l o (by omega)) ?_))))))))))
  rw [beq_self_eq_true]
  refine Ev.step (fun k => by rw [damsonlaw13_PaymentDoes.j1]) ?_
  exact does_l0 l _ hlen (by omega) (pstart l p).1.length (by omega) (pstart l p).1.length 0 (pstart l p).1 rfl (by omega) (by omega)
 refine Ev.bind live13 (ev_pos rfl (ev_if (fun hf => core _ (fun _ => pfew_le hf)) (fun _ => core true (fun hd => by simp at hd))))
end Go.Proofs.Ytcfbcoinbecdfaa.B
theorem Go.Proofs.Ytcfbcoinbecdfaa.Pure.PaymentDoes : Go.Proofs.Ytcfbcoinbecdfaa.P.damsonlaw13_PaymentDoes.Pure := Go.Proofs.Ytcfbcoinbecdfaa.B.paymentDoes
