/- In whatever order two channels are opened, they are the same; one that was opened is told as it is. -/
import Derived.Test.YtcfbcoinbecdfaaLoLN
import Derived.Test.YtcfbcoinbecdfaaLoLS
import Derived.Test.YtcfbcoinbecdfaaLoLF
import Derived.Test.YtcfbcoinbecdfaaLoLL
import Derived.Test.YtcfbcoinbecdfaaQLopensx9
set_option linter.unusedVariables false
namespace Go.Proofs.Ytcfbcoinbecdfaa.B
open Go.RowKit Go.Proofs.Ytcfbcoinbecdfaa.P Go.Proofs.YtcfbcoinbecdfaaW.PrintWords
theorem lb_of {l : List S25} (g : ∀ y ∈ l, G25 y) : LB l := fun c hc => by
  obtain ⟨a0, a1, a2, a3, a4, ⟨_, a5⟩, _⟩ := g c hc
  exact ⟨cb_of (g c hc), wf_u64 a0, fun h hh => wf_u64 (a5 h hh).1⟩
theorem lok_small {l : List S25} (hg : LB l) (ok : lok l = true) : l.length ≤ 1000 ∧ ∀ c ∈ l, c.f5.length ≤ 1000 := by
  obtain ⟨h1, h2, _⟩ := (lok_iff (lb_cb hg)).1 ok
  exact ⟨by omega, fun c hc => by have := cok_len c (h2 c hc); omega⟩
theorem lopen_both {l : List S25} {c d : S25} (hg : LB l) (hc : LB [c]) (hd : LB [d]) (hne : ¬ c.f0 = d.f0) (e1 : (lopen l c).2 = 0) (e2 : (lopen l d).2 = 0) :
    lopen (ins lk c l) d = lopen (ins lk d l) c ∧ ((lopen (ins lk c l) d).2 = 0 ∨ (lopen (ins lk c l) d).2 = 7 ∨ (lopen (ins lk c l) d).2 = 8) := by
  obtain ⟨a1, a2, a3, a4, a5, a6, a7, _⟩ := lopen_ok e1
  obtain ⟨b1, b2, b3, b4, b5, b6, b7, _⟩ := lopen_ok e2
  have hs := ((lok_iff (lb_cb hg)).1 a4).2.2.1
  have l1 : look lk d.f0 (ins lk c l) = none := by rw [look_ins, if_neg hne, b5]
  have l2 : look lk c.f0 (ins lk d l) = none := by rw [look_ins, if_neg (fun e => hne e.symm), a5]
  have hcomm : ins lk d (ins lk c l) = ins lk c (ins lk d l) := ins_comm hs a5 b5 hne
  have v1 : lopen (ins lk c l) d = if l.length + 1 = 32 then ([], 7) else if lok (ins lk d (ins lk c l)) = true then (ins lk d (ins lk c l), 0) else ([], 8) := by
    unfold lopen
    rw [if_pos (show cok d = true ∧ d.f6 = true ∧ d.f5.length = 0 ∧ lok (ins lk c l) = true from ⟨b1, b2, b3, a7⟩), l1, ins_length]
    simp only [Option.isSome_none, Bool.false_eq_true, if_false]
  have v2 : lopen (ins lk d l) c = if l.length + 1 = 32 then ([], 7) else if lok (ins lk c (ins lk d l)) = true then (ins lk c (ins lk d l), 0) else ([], 8) := by
    unfold lopen
    rw [if_pos (show cok c = true ∧ c.f6 = true ∧ c.f5.length = 0 ∧ lok (ins lk d l) = true from ⟨a1, a2, a3, b7⟩), l2, ins_length]
    simp only [Option.isSome_none, Bool.false_eq_true, if_false]
  rw [v1, v2, hcomm]
  refine ⟨rfl, ?_⟩
  by_cases k1 : l.length + 1 = 32
  · rw [if_pos k1]; exact .inr (.inl rfl)
  · rw [if_neg k1]
    by_cases k2 : lok (ins lk c (ins lk d l)) = true
    · rw [if_pos k2]; exact .inl rfl
    · rw [if_neg k2]; exact .inr (.inr rfl)
theorem lopen_small {l : List S25} {c : S25} (hg : LB l) (hc : LB [c]) : (lopen l c).1.length ≤ 1000 ∧ ∀ x ∈ (lopen l c).1, x.f5.length ≤ 1000 := by
  by_cases k : (lopen l c).2 = 0
  · obtain ⟨a1, a2, a3, a4, a5, a6, a7, a8⟩ := lopen_ok k
    rw [a8]
    exact lok_small (lb_ins hg hc) a7
  · have : (lopen l c).1 = [] := by
      unfold lopen at k ⊢
      split
      · rename_i q
        rw [if_pos q] at k
        split
        · rfl
        · rename_i q2
          rw [if_neg q2] at k
          split
          · rfl
          · rename_i q3
            rw [if_neg q3] at k
            split
            · rename_i q4
              rw [if_pos q4] at k
              exact absurd rfl k
            · rfl
      · rfl
    rw [this]
    exact ⟨by simp, fun x hx => by simp at hx⟩
theorem ledgerOpens : damsonlaw10_LedgerOpens.Pure := by
  intro l c d gl gc gd
  have hg := lb_of gl.2
  have hc : LB [c] := lb_of (fun y hy => by have : y = c := (by simpa using hy); rw [this]; exact gc)
  have hd : LB [d] := lb_of (fun y hy => by have : y = d := (by simpa using hy); rw [this]; exact gd)
  apply Ev.rounds
  unfold damsonlaw10_LedgerOpens.f damsonlaw10_LedgerOpens.g
  obtain ⟨b1, f1, q1⟩ := few_ev l gl.1
  refine Ev.bind (Ev.of damsonlaw10_live.mono live10) (ev_pos rfl (Ev.bind f1 (ev_if (fun e1 => ev_if (fun n1 => ev_if (fun n2 => ev_if (fun hne => ?_) (fun _ => ev_some rfl)) (fun _ => ev_some rfl)) (fun _ => ev_some rfl)) (fun _ => ev_some rfl))))
  refine Ev.bind (lopen_ev l c hg hc) (Ev.bind (lopen_ev l d hg hd) (ev_if (fun k1 => ev_if (fun k2 => ?_) (fun _ => ev_some rfl)) (fun _ => ev_some rfl)))
  obtain ⟨a1, a2, a3, a4, a5, a6, a7, a8⟩ := lopen_ok k1
  obtain ⟨b1, b2, b3, b4, b5, b6, b7, b8⟩ := lopen_ok k2
  rw [a8, b8]
  unfold damsonlaw10_LedgerOpens.b
  have hga := lb_ins hg hc
  have hgb := lb_ins hg hd
  obtain ⟨o1, o2⟩ := lopen_both hg hc hd hne k1 k2
  have hget : lget (ins lk c l) c.f0 = (c, 0) := by
    unfold lget
    rw [if_pos a7, look_ins, if_pos rfl]
  obtain ⟨z1, z2⟩ := lopen_small hga hd
  have s1 : Ev (fun k => ledger_Same.f k (lopen (ins lk c l) d).1 (lopen (ins lk d l) c).1) true := ev_eq (lsame_ev _ _ z1 z2) (by rw [← o1]; exact lsame_refl _)
  have s2 : Ev (fun k => channel_Same.f k c.f0 c.f1 c.f2 c.f3 c.f4 c.f5 c.f6 c.f0 c.f1 c.f2 c.f3 c.f4 c.f5 c.f6) true := ev_eq (csm_ev c c (by omega)) (csm_refl c)
  have s3 : Ev (fun k => ledger_Get.f k (ins lk c l) c.f0) (tup (c, 0)) := ev_eq (lget_ev _ c.f0 hga) (by rw [hget])
  refine Ev.bind (lopen_ev _ d hga hd) (Ev.bind (lopen_ev _ c hgb hc) (Ev.bind s3 (Ev.bind s1 (Ev.bind s2 ?_))))
  exact ev_pos ⟨by rw [← o1], rfl, o2, rfl, rfl⟩ (ev_some rfl)
end Go.Proofs.Ytcfbcoinbecdfaa.B
theorem Go.Proofs.Ytcfbcoinbecdfaa.Pure.LedgerOpens : Go.Proofs.Ytcfbcoinbecdfaa.P.damsonlaw10_LedgerOpens.Pure := Go.Proofs.Ytcfbcoinbecdfaa.B.ledgerOpens
