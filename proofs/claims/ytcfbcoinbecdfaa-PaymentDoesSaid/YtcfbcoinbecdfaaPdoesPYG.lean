/- Plain laws of the package payment: what one is. -/
import Derived.Test.YtcfbcoinbecdfaaPdoesPY
import Derived.Test.YtcfbcoinbecdfaaQPdoesx5
set_option linter.unusedVariables false
namespace Go.Proofs.Ytcfbcoinbecdfaa.B
open Go.RowKit Go.Proofs.Ytcfbcoinbecdfaa.P Go.Proofs.YtcfbcoinbecdfaaW.PrintWords
def pget (l : List S74) (h : Int) : S74 × Int := if pok l = true then (match look pk h l with | none => (z74, 5) | some x => (x, 0)) else (z74, 1)
theorem pget_ev (l : List S74) (h : Int) : Ev (fun k => payment_Get.f k l h) ((pget l h).1.f0, (pget l h).1.f1, (pget l h).1.f2, (pget l h).1.f3, (pget l h).1.f4, (pget l h).2) := by
 unfold payment_Get.f pget
 refine Ev.bind (pfind_ev l h) ?_
 unfold pfind
 by_cases c : pok l = true
 ·obtain ⟨h1, h2, h3⟩ := pok_iff.1 c
  rw [if_pos c, if_pos c]
  cases hk : look pk h l with
  | none => exact ev_neg (by simp) (ev_some rfl)
  | some x =>
   have hat := look_at h (z := z74) h2 hk
   have hrd : rd_T74 l (pos pk h l : Int) = x := by rw [rd74, hat.2]
   refine ev_pos rfl (ev_pos (by show (0 : Int) ≤ (pos pk h l : Int); omega) (ev_pos (by show (pos pk h l : Int) < _; omega) (ev_some ?_)))
   simp only [hrd]
 ·rw [if_neg c, if_neg c]
  exact ev_neg (by simp) (ev_some rfl)
theorem pget_some {l : List S74} {h : Int} {x : S74} (c : pok l = true) (hx : look pk h l = some x) : pget l h = (x, 0) := by
 unfold pget; rw [if_pos c, hx]
theorem pget_none {l : List S74} {h : Int} (c : pok l = true) (hx : look pk h l = none) : pget l h = (z74, 5) := by
 unfold pget; rw [if_pos c, hx]
theorem pget_no {l : List S74} {h : Int} (c : ¬ pok l = true) : pget l h = (z74, 1) := by
 unfold pget; rw [if_neg c]
theorem pget_same {l m : List S74} {h : Int} (c : pok l = true) (c2 : pok m = true) (e : look pk h m = look pk h l) : pget m h = pget l h := by
 unfold pget; rw [if_pos c, if_pos c2, e]
end Go.Proofs.Ytcfbcoinbecdfaa.B
