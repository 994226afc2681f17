/- A fee of nothing is its base; a fee of more is no less; base and share are what it is, or it is too much. No conditions. -/
import Derived.Test.YtcolmgbmpmmeaaaPureMoneyShares
set_option linter.unusedVariables false
namespace Go.Proofs.Ytcolmgbmpmmeaaa.B
open Go.RowKit Go.Proofs.Ytcolmgbmpmmeaaa.P Go.Proofs.YtcolmgbmpmmeaaaW.PrintWords
theorem madd2_08 {a b : Int} (h : a ≤ 4611686018427387904) (h' : b ≤ 4611686018427387904) : (madd2 a b).2 = 0 ∨ (madd2 a b).2 = 8 := by
  unfold madd2
  rw [if_pos ⟨h, h'⟩]
  split <;> simp
theorem fee_rest (b n a : Int) (a0 : 0 ≤ a) (b0 : 0 ≤ b) (n0 : 0 ≤ n) : Ev (fun k => damsonlaw04_MoneyFee.j0 k b n a (mfee b n a).1 (mfee b n a).2 false) true := by
  refine Ev.step (fun k => by rw [damsonlaw04_MoneyFee.j0]) (ev_neg (by simp) ?_)
  refine Ev.bind (share_ev a n a0 n0) (Ev.bind (add2_ev b _ b0 (mshare_nn a n a0 n0)) ?_)
  by_cases h : (mshare a n).2 = 0
  · refine ev_pos h (Ev.bind (check_ev [b] (by simp)) ?_)
    have ef : mfee b n a = madd2 b (mshare a n).1 := by unfold mfee; rw [if_pos h]
    rw [ef]
    by_cases hb : b ≤ 4611686018427387904
    · refine ev_pos (mchk_ok1 hb) (ev_pos rfl (ev_pos rfl ?_))
      obtain ⟨n2, a2, e1⟩ := mshare_ok h
      have hs : (mshare a n).1 ≤ 4611686018427387904 := by rw [e1]; have := (mshare_le a0 n2 n0).2; show a * n / 1000000 ≤ _; omega
      rcases madd2_08 hb hs with h8 | h8
      · exact ev_pos h8 (ev_some rfl)
      · exact ev_neg (by rw [h8]; omega) (ev_some (by rw [h8]; rfl))
    · have e : madd2 b (mshare a n).1 = (0, 1) := by unfold madd2; rw [if_neg (fun h => hb h.1)]
      refine ev_neg (by rw [mchk_no1 hb]; omega) ?_
      rw [e]
      exact ev_pos rfl (ev_some rfl)
  · have ef : mfee b n a = (0, 1) := by unfold mfee; rw [if_neg h, mshare_no h]
    rw [ef]
    exact ev_neg h (ev_pos rfl (ev_some rfl))
end Go.Proofs.Ytcolmgbmpmmeaaa.B
namespace Go.Proofs.Ytcolmgbmpmmeaaa.Pure
open Go.RowKit Go.Proofs.Ytcolmgbmpmmeaaa.P Go.Proofs.YtcolmgbmpmmeaaaW.PrintWords Go.Proofs.Ytcolmgbmpmmeaaa.B
theorem MoneyFee : damsonlaw04_MoneyFee.Pure := by
  intro b n a c wb wn wa wc
  obtain ⟨a0, a1⟩ := wf_u64 wa
  obtain ⟨b0, b1⟩ := wf_u64 wb
  obtain ⟨n0, n1⟩ := wf_u64 wn
  obtain ⟨c0, c1⟩ := wf_u64 wc
  apply Ev.rounds
  unfold damsonlaw04_MoneyFee.f
  refine Ev.bind live04 (ev_pos rfl (Ev.bind (fee_ev b n a b0 n0 a0) (Ev.bind (fee_ev b n c b0 n0 c0) (Ev.bind (fee_ev b n 0 b0 n0 (by omega)) ?_))))
  have rest := fee_rest b n a a0 b0 n0
  have last : Ev (fun k => if (mfee b n a).2 = 0 then (if (mfee b n c).2 = 0 then (if a ≤ c then (damsonlaw04_MoneyFee.j0 k b n a (mfee b n a).1 (mfee b n a).2 (decide ((mfee b n a).1 > (mfee b n c).1))) else (damsonlaw04_MoneyFee.j0 k b n a (mfee b n a).1 (mfee b n a).2 false)) else (damsonlaw04_MoneyFee.j0 k b n a (mfee b n a).1 (mfee b n a).2 false)) else (damsonlaw04_MoneyFee.j0 k b n a (mfee b n a).1 (mfee b n a).2 false)) true := by
    by_cases e : (mfee b n a).2 = 0
    · refine ev_pos e ?_
      by_cases f : (mfee b n c).2 = 0
      · refine ev_pos f ?_
        by_cases hac : a ≤ c
        · refine ev_pos hac ?_
          obtain ⟨e1, e2, _⟩ := mfee_ok e
          obtain ⟨f1, f2, _⟩ := mfee_ok f
          have := mshare_of n0 hac e1 f1
          rw [decide_eq_false (by omega)]
          exact rest
        · exact ev_neg hac rest
      · exact ev_neg f rest
    · exact ev_neg e rest
  by_cases g : (mfee b n 0).2 = 0
  · refine ev_pos g (ev_pos ?_ last)
    obtain ⟨g1, g2, _⟩ := mfee_ok g
    obtain ⟨_, _, g3⟩ := mshare_ok g1
    rw [g2, g3]
    show b + 0 * n / 1000000 = b
    rw [Int.zero_mul]; omega
  · exact ev_neg g last
end Go.Proofs.Ytcolmgbmpmmeaaa.Pure
