/- A payment ends once; what is pending is never forgotten. -/
import Derived.Test.YtcfbcoinbecdfaaPoncePYG
import Derived.Test.YtcfbcoinbecdfaaQPoncex6
set_option linter.unusedVariables false
namespace Go.Proofs.Ytcfbcoinbecdfaa.B
open Go.RowKit Go.Proofs.Ytcfbcoinbecdfaa.P Go.Proofs.YtcfbcoinbecdfaaW.PrintWords
/-- What stays true whatever is done with others: the payment, if it is pending, is there. -/
def PInv (id : Int) (x : S74) (m : List S74) : Prop := pok m = true ∧ (x.f4 = 1 → look pk id m = some x)
theorem pinv_start {id : Int} {x : S74} {m : List S74} (h : PInv id x m) (p : S74) (e : (pstart m p).2 = 0) : PInv id x (pstart m p).1 := by
  obtain ⟨hi, hg, s1, hno, m2, hm, hmi, hmn, hml, hcase⟩ := pstart_ok e
  rw [hm]
  refine ⟨pok_ins hmi hmn hg hml, fun hx => ?_⟩
  have h1 := h.2 hx
  have hne : ¬ pk p = id := by
    intro q
    have : look pk id m = none := by rw [← q]; exact hno
    rw [this] at h1; simp at h1
  rw [look_ins, if_neg hne]
  rcases hcase with rfl | ⟨k, k1, k2, rfl⟩
  · exact h1
  · have hs := (pok_iff.1 h.1).2.1
    rw [plook_erase hs k1]
    have hmem : m.getD k z74 ∈ m := by
      rw [List.getD_eq_getElem?_getD, List.getElem?_eq_getElem k1]
      exact List.getElem_mem k1
    have hl := look_mem hs hmem
    rw [if_neg]
    · exact h1
    · intro q
      rw [← q, h1] at hl
      injection hl with hl
      rw [← hl] at k2
      exact k2 hx
theorem pinv_end {id o : Int} {x : S74} {m : List S74} {b : Bool} (h : PInv id x m) (hne : o ≠ id) (e : (pend m o b).2 = 0) : PInv id x (pend m o b).1 := by
  obtain ⟨hi, y, hy, hy1, hm⟩ := pend_ok e
  rw [hm]
  refine ⟨pok_upd hi (by cases b <;> decide) (by cases b <;> decide), fun hx => ?_⟩
  rw [plook_upd, if_neg (fun q => hne q.symm)]
  exact h.2 hx
theorem once_j4 (id : Int) (b : Bool) (x : S74) (m : List S74) (h : PInv id x m) : Ev (fun k => damsonlaw13_PaymentOnce.j4 k id b m x.f0 x.f1 x.f2 x.f3 x.f4) true := by
  refine Ev.step (fun k => by rw [damsonlaw13_PaymentOnce.j4]) (Ev.bind (pend_ev m id b) (ev_if (fun hx => ?_) (fun hx => ?_)))
  · have hl := h.2 hx
    have hst : (if b then (2 : Int) else 3) ≠ 1 := by cases b <;> decide
    have hm2 : pok (upd pk id (pset (if b then 2 else 3)) m) = true := pok_upd h.1 (by cases b <;> decide) (by cases b <;> decide)
    have hl2 : look pk id (upd pk id (pset (if b then 2 else 3)) m) = some (pset (if b then 2 else 3) x) := by rw [plook_upd, if_pos rfl, hl]; rfl
    rw [pend_eq h.1 hl, if_pos hx]
    refine Ev.bind (pend_ev _ id (!b)) (Ev.bind (pget_ev _ id) ?_)
    rw [pend_eq hm2 hl2, if_neg (show ¬ (pset (if b then 2 else 3) x).f4 = 1 from hst), pget_some hm2 hl2]
    cases b with
    | true => exact ev_pos rfl (ev_pos rfl (ev_pos rfl (ev_pos rfl (ev_pos rfl (ev_some (by show (x.f3 == x.f3) = true; simp))))))
    | false => exact ev_neg (by decide) (ev_pos rfl (ev_pos rfl (ev_pos rfl (ev_pos rfl (ev_some (by show (x.f3 == x.f3) = true; simp))))))
  · refine Ev.bind (pget_ev m id) (ev_const ?_)
    cases hl : look pk id m with
    | none => rw [pget_none h.1 hl, pend_none h.1 hl]; rfl
    | some y =>
      rw [pget_some h.1 hl, pend_eq h.1 hl]
      by_cases q : y.f4 = 1
      · rw [if_pos q, if_pos rfl, q]; rfl
      · rw [if_neg q, if_pos rfl, show (y.f4 == 1) = false by simpa using q]; rfl
theorem once_j3 (id : Int) (b : Bool) (x : S74) (ids kinds : List Int) (i : Nat) (m : List S74) (h : PInv id x m) (hi : i < ids.length) (hl : ids.length ≤ 30)
    (ih : ∀ m, PInv id x m → Ev (fun k => damsonlaw13_PaymentOnce.l0 k id b kinds m ids (ids.length : Int) ((i + 1 : Nat) : Int) x.f0 x.f1 x.f2 x.f3 x.f4) true) :
    Ev (fun k => damsonlaw13_PaymentOnce.j3 k id b kinds m ids (ids.length : Int) (i : Int) x.f0 x.f1 x.f2 x.f3 x.f4) true := by
  refine Ev.step (fun k => by rw [damsonlaw13_PaymentOnce.j3]) (Ev.bind (pcheck_ev m) ?_)
  rw [if_pos h.1, next_i hi (by omega)]
  refine ev_pos rfl (Ev.bind (pget_ev m id) (ev_if (fun hx => ?_) (fun _ => ih m h)))
  rw [pget_some h.1 (h.2 hx)]
  exact ev_pos rfl (ev_neg (by simp) (ih m h))
theorem once_j2 (id : Int) (b : Bool) (x : S74) (ids kinds : List Int) (i : Nat) (m n : List S74) (e : Int) (h : PInv id x m) (hn : e = 0 → PInv id x n) (hi : i < ids.length) (hl : ids.length ≤ 30)
    (ih : ∀ m, PInv id x m → Ev (fun k => damsonlaw13_PaymentOnce.l0 k id b kinds m ids (ids.length : Int) ((i + 1 : Nat) : Int) x.f0 x.f1 x.f2 x.f3 x.f4) true) :
    Ev (fun k => damsonlaw13_PaymentOnce.j2 k id b kinds m n e ids (ids.length : Int) (i : Int) x.f0 x.f1 x.f2 x.f3 x.f4) true := by
  refine Ev.step (fun k => by rw [damsonlaw13_PaymentOnce.j2]) (ev_if (fun q => once_j3 id b x ids kinds i n (hn q) hi hl ih) (fun _ => once_j3 id b x ids kinds i m h hi hl ih))
theorem once_l0 (id : Int) (b : Bool) (x : S74) (ids kinds : List Int) (hl : ids.length ≤ 30) : ∀ (ys : List Int) (i : Nat) (m : List S74), ids.drop i = ys → PInv id x m →
    Ev (fun k => damsonlaw13_PaymentOnce.l0 k id b kinds m ids (ids.length : Int) (i : Int) x.f0 x.f1 x.f2 x.f3 x.f4) true
  | [], i, m, hd, h => by
    have hi := drop_nil hd
    exact Ev.step (fun k => by rw [damsonlaw13_PaymentOnce.l0]) (ev_neg (by omega) (once_j4 id b x m h))
  | y :: ys, i, m, hd, h => by
    have hi := drop_lt hd
    have ih := fun m hm => once_l0 id b x ids kinds hl ys (i + 1) m (drop_next hd) hm
    refine Ev.step (fun k => by rw [damsonlaw13_PaymentOnce.l0]) (ev_pos (by omega) (ev_pos (by omega) (ev_pos (by omega) ?_)))
    rw [drop_rd hd, next_i hi (by omega)]
    refine ev_if (fun _ => once_j4 id b x m h) (fun q => ev_pos (by omega) (ev_if (fun _ => ?_) (fun _ => ?_)))
    · exact Ev.bind (pstart_ev m ⟨y, 0, 0, 1, 1⟩) (once_j2 id b x ids kinds i m _ _ h (fun e => pinv_start h _ e) hi hl ih)
    · refine ev_if (fun _ => ih m h) (fun hne => ?_)
      exact Ev.bind (pend_ev m y _) (once_j2 id b x ids kinds i m _ _ h (fun e => pinv_end h hne e) hi hl ih)
theorem paymentOnce : damsonlaw13_PaymentOnce.Pure := by
  intro l id b ids kinds hl w1 w3 w4
  apply Ev.rounds
  unfold damsonlaw13_PaymentOnce.f
  simp only [few_eq, Option.bind_some]
  have core : ∀ w, (w = false → ids.length ≤ 30) → Ev (fun k => damsonlaw13_PaymentOnce.j0 k l id b ids kinds w) true := by
    intro w hw
    refine Ev.step (fun k => by rw [damsonlaw13_PaymentOnce.j0]) (ev_if (fun _ => ev_some rfl) (fun hw0 => ?_))
    have hlen := hw (by simpa using hw0)
    refine Ev.bind (pget_ev l id) ?_
    by_cases c : pok l = true
    · cases hk : look pk id l with
      | none => rw [pget_none c hk]; exact ev_neg (by decide) (ev_some rfl)
      | some x =>
        rw [pget_some c hk]
        exact ev_pos rfl (once_l0 id b x ids kinds hlen ids 0 l rfl ⟨c, fun _ => hk⟩)
    · rw [pget_no c]; exact ev_neg (by decide) (ev_some rfl)
  refine Ev.bind live13 (ev_pos rfl (ev_if (fun hf => core _ (fun hd => ?_)) (fun _ => core true (fun hd => by simp at hd))))
  have := of_decide_eq_false hd
  omega
end Go.Proofs.Ytcfbcoinbecdfaa.B
theorem Go.Proofs.Ytcfbcoinbecdfaa.Pure.PaymentOnce : Go.Proofs.Ytcfbcoinbecdfaa.P.damsonlaw13_PaymentOnce.Pure := Go.Proofs.Ytcfbcoinbecdfaa.B.paymentOnce
