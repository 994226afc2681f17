/- A share is no more than all of it, all of it of a million, and more of more; a fee is its base and the share. No conditions. -/
import Derived.Test.YtcolmgbmpmmeaaaPureMoneyBack
set_option linter.unusedVariables false
namespace Go.Proofs.Ytcolmgbmpmmeaaa.B
open Go.RowKit Go.Proofs.Ytcolmgbmpmmeaaa.P Go.Proofs.YtcolmgbmpmmeaaaW.PrintWords
theorem mshare_all {a : Int} (h : a ≤ 4611686018427387904) : mshare a 1000000 = (a, 0) := by
  unfold mshare
  rw [if_neg (by omega), if_pos h, Int.mul_ediv_cancel _ (by omega)]
theorem mshare_none {a : Int} (h : a ≤ 4611686018427387904) : mshare a 0 = (0, 0) := by
  unfold mshare
  rw [if_neg (by omega), if_pos h, Int.mul_zero]
  rfl
theorem mshare_much {a : Int} (h : ¬ a ≤ 4611686018427387904) (n : Int) : mshare a n = (0, 1) := by
  unfold mshare
  by_cases h1 : n > 1000000
  · rw [if_pos h1]
  · rw [if_neg h1, if_neg h]
theorem mshare_e (a n : Int) : (mshare a n).2 = 0 ∨ mshare a n = (0, 1) := by
  by_cases h : (mshare a n).2 = 0
  · exact .inl h
  · exact .inr (mshare_no h)
theorem madd2_ok {a b : Int} (h : (madd2 a b).2 = 0) : madd2 a b = (a + b, 0) ∧ a + b ≤ 4611686018427387904 := by
  unfold madd2 at h ⊢
  by_cases h1 : a ≤ 4611686018427387904 ∧ b ≤ 4611686018427387904
  · rw [if_pos h1] at h ⊢
    by_cases h2 : a + b > 4611686018427387904
    · rw [if_pos h2] at h; simp at h
    · rw [if_neg h2]; exact ⟨rfl, by omega⟩
  · rw [if_neg h1] at h; simp at h
theorem madd2_no {a b : Int} (h : ¬ (madd2 a b).2 = 0) : (madd2 a b).1 = 0 := by
  unfold madd2 at h ⊢
  by_cases h1 : a ≤ 4611686018427387904 ∧ b ≤ 4611686018427387904
  · rw [if_pos h1] at h ⊢
    by_cases h2 : a + b > 4611686018427387904
    · rw [if_pos h2]
    · rw [if_neg h2] at h; simp at h
  · rw [if_neg h1]
theorem mfee_ok {b n a : Int} (h : (mfee b n a).2 = 0) : (mshare a n).2 = 0 ∧ (mfee b n a).1 = b + (mshare a n).1 ∧ b + (mshare a n).1 ≤ 4611686018427387904 := by
  unfold mfee at h ⊢
  by_cases h1 : (mshare a n).2 = 0
  · rw [if_pos h1] at h ⊢
    obtain ⟨e, l⟩ := madd2_ok h
    rw [e]; exact ⟨h1, rfl, l⟩
  · rw [if_neg h1] at h; exact absurd h h1
theorem mfee_no {b n a : Int} (h : ¬ (mfee b n a).2 = 0) : (mfee b n a).1 = 0 := by
  unfold mfee at h ⊢
  by_cases h1 : (mshare a n).2 = 0
  · rw [if_pos h1] at h ⊢; exact madd2_no h
  · rw [if_neg h1]
theorem shares_rest (a b n : Int) (a0 : 0 ≤ a) (b0 : 0 ≤ b) (n0 : 0 ≤ n) : Ev (fun k => damsonlaw04_MoneyShares.j1 k a b n (mshare a n).1 (mshare a n).2 false) true := by
  have fin : ∀ (c : Prop) [Decidable c], Ev (fun k => (money_Fee.f k b n a).bind fun t => (if t.2 = 0 then (if (mshare a n).2 = 0 then (some (t.1 == (IntKind.u64.wrap (b + (mshare a n).1)))) else (some false)) else (if t.1 = 0 then (some true) else (some false)))) true := by
    intro _ _
    refine Ev.bind (fee_ev b n a b0 n0 a0) ?_
    by_cases h : (mfee b n a).2 = 0
    · obtain ⟨h1, h2, h3⟩ := mfee_ok h
      have hn := mshare_nn a n a0 n0
      refine ev_pos h (ev_pos h1 (ev_some ?_))
      rw [h2, u64w (by omega) (by omega)]
      simp
    · exact ev_neg h (ev_pos (mfee_no h) (ev_some rfl))
  refine Ev.step (fun k => by rw [damsonlaw04_MoneyShares.j1]) (ev_neg (by simp) ?_)
  refine Ev.bind (share_ev a 1000000 a0 (by omega)) (Ev.bind (share_ev a 0 a0 (by omega)) ?_)
  by_cases h : a ≤ 4611686018427387904
  · rw [mshare_all h, mshare_none h]
    exact ev_pos rfl (ev_pos rfl (ev_pos rfl (ev_pos rfl (fin True))))
  · rw [mshare_much h 1000000, mshare_much h 0]
    exact ev_neg (by simp) (ev_pos rfl (ev_pos rfl (fin True)))
theorem mul_div_mono {a n m : Int} (ha : 0 ≤ a) (h : n ≤ m) : a * n / 1000000 ≤ a * m / 1000000 :=
  Int.ediv_le_ediv (by omega) (Int.mul_le_mul_of_nonneg_left h ha)
theorem mshare_more {a n m : Int} (ha : 0 ≤ a) (h : n ≤ m) (e : (mshare a n).2 = 0) (f : (mshare a m).2 = 0) : (mshare a n).1 ≤ (mshare a m).1 := by
  obtain ⟨_, _, e1⟩ := mshare_ok e
  obtain ⟨_, _, f1⟩ := mshare_ok f
  rw [e1, f1]; exact mul_div_mono ha h
theorem mshare_of {a b n : Int} (hn : 0 ≤ n) (h : a ≤ b) (e : (mshare a n).2 = 0) (f : (mshare b n).2 = 0) : (mshare a n).1 ≤ (mshare b n).1 := by
  obtain ⟨_, _, e1⟩ := mshare_ok e
  obtain ⟨_, _, f1⟩ := mshare_ok f
  rw [e1, f1]
  exact Int.ediv_le_ediv (by omega) (Int.mul_le_mul_of_nonneg_right h hn)
end Go.Proofs.Ytcolmgbmpmmeaaa.B
namespace Go.Proofs.Ytcolmgbmpmmeaaa.Pure
open Go.RowKit Go.Proofs.Ytcolmgbmpmmeaaa.P Go.Proofs.YtcolmgbmpmmeaaaW.PrintWords Go.Proofs.Ytcolmgbmpmmeaaa.B
theorem MoneyShares : damsonlaw04_MoneyShares.Pure := by
  intro a b n m wa wb wn wm
  obtain ⟨a0, a1⟩ := wf_u64 wa
  obtain ⟨b0, b1⟩ := wf_u64 wb
  obtain ⟨n0, n1⟩ := wf_u64 wn
  obtain ⟨m0, m1⟩ := wf_u64 wm
  apply Ev.rounds
  unfold damsonlaw04_MoneyShares.f
  refine Ev.bind live04 (ev_pos rfl (Ev.bind (share_ev a n a0 n0) (Ev.bind (share_ev a m a0 m0) (Ev.bind (share_ev b n b0 n0) ?_))))
  have rest := shares_rest a b n a0 b0 n0
  by_cases e : (mshare a n).2 = 0
  · refine ev_pos e ?_
    obtain ⟨n2, a2, e1⟩ := mshare_ok e
    have hx : ¬ (mshare a n).1 > a := by rw [e1]; have := (mshare_le a0 n2 n0).2; show ¬ a * n / 1000000 > a; omega
    refine Ev.step (fun k => by rw [damsonlaw04_MoneyShares.j0]) (ev_neg (by simpa using hx) (ev_pos e ?_))
    have last : Ev (fun k => if (mshare b n).2 = 0 then (if a ≤ b then damsonlaw04_MoneyShares.j1 k a b n (mshare a n).1 (mshare a n).2 (decide ((mshare a n).1 > (mshare b n).1)) else damsonlaw04_MoneyShares.j1 k a b n (mshare a n).1 (mshare a n).2 false) else damsonlaw04_MoneyShares.j1 k a b n (mshare a n).1 (mshare a n).2 false) true := by
      by_cases g : (mshare b n).2 = 0
      · refine ev_pos g ?_
        by_cases hab : a ≤ b
        · refine ev_pos hab ?_
          rw [decide_eq_false (by have := mshare_of n0 hab e g; omega)]
          exact rest
        · exact ev_neg hab rest
      · exact ev_neg g rest
    by_cases f : (mshare a m).2 = 0
    · refine ev_pos f ?_
      by_cases hnm : n ≤ m
      · refine ev_pos hnm (ev_neg ?_ last)
        have := mshare_more a0 hnm e f
        omega
      · exact ev_neg hnm last
    · exact ev_neg f last
  · refine ev_neg e ?_
    refine Ev.step (fun k => by rw [damsonlaw04_MoneyShares.j0]) (ev_neg (by simp) (ev_neg e rest))
end Go.Proofs.Ytcolmgbmpmmeaaa.Pure
