/- Plain words of the package ledger: one channel of many changed. -/
import Derived.Test.YtcfbcoinbecdfaaLdLP
set_option linter.unusedVariables false
namespace Go.Proofs.Ytcfbcoinbecdfaa.B
open Go.RowKit Go.Proofs.Ytcfbcoinbecdfaa.P Go.Proofs.YtcfbcoinbecdfaaW.PrintWords
theorem look_split {id : Int} {c : S25} : ∀ {l : List S25}, look lk id l = some c → ∃ a b, l = a ++ c :: b ∧ (∀ x ∈ a, lk x ≠ id) ∧ lk c = id ∧ ∀ f, upd lk id f l = a ++ f c :: b
  | y :: ys, h => by
    have e : look lk id (y :: ys) = if lk y = id then some y else look lk id ys := rfl
    rw [e] at h
    by_cases q : lk y = id
    · rw [if_pos q] at h
      injection h with h
      subst h
      refine ⟨[], ys, rfl, fun x hx => by simp at hx, q, fun f => ?_⟩
      show (if lk y = id then f y :: ys else y :: upd lk id f ys) = f y :: ys
      rw [if_pos q]
    · rw [if_neg q] at h
      obtain ⟨a, b, h1, h2, h3, h4⟩ := look_split h
      refine ⟨y :: a, b, by rw [h1]; rfl, fun x hx => ?_, h3, fun f => ?_⟩
      · rcases List.mem_cons.1 hx with rfl | hx
        · exact q
        · exact h2 x hx
      · show (if lk y = id then f y :: ys else y :: upd lk id f ys) = y :: (a ++ f c :: b)
        rw [if_neg q, h4]
/-- What a change of one of many leaves. -/
def lchange (l : List S25) (id : Int) (hw : S25 → S25 × Int) : List S25 × Int := if lok l = true then (match look lk id l with | none => ([], 5) | some c => if (hw c).2 = 0 then (upd lk id (fun _ => (hw c).1) l, 0) else ([], (hw c).2)) else ([], 1)
end Go.Proofs.Ytcfbcoinbecdfaa.B
