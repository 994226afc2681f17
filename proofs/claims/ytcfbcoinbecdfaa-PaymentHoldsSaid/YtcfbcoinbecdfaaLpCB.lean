/- Plain laws of the package channel: what holding leaves is a channel. -/
import Derived.Test.YtcfbcoinbecdfaaLpCH
import Derived.Test.YtcfbcoinbecdfaaQPholdsx6
set_option linter.unusedVariables false
namespace Go.Proofs.Ytcfbcoinbecdfaa.B
open Go.RowKit Go.Proofs.Ytcfbcoinbecdfaa.P Go.Proofs.YtcfbcoinbecdfaaW.PrintWords
/-- No number of a channel is less than nothing. -/
def CB (c : S25) : Prop := 0 ≤ c.f1 ∧ 0 ≤ c.f2 ∧ 0 ≤ c.f3 ∧ 0 ≤ c.f4 ∧ ∀ y ∈ c.f5, 0 ≤ y.f1
theorem cb_of {c : S25} (g : G25 c) : CB c := by
  obtain ⟨_, h1, h2, h3, h4, hn⟩ := cbounds g
  exact ⟨h1, h2, h3, h4, hn⟩
theorem ccheck_ev (c : S25) (g : CB c) : Ev (fun k => channel_Check.f k c.f0 c.f1 c.f2 c.f3 c.f4 c.f5 c.f6) (if cok c then 0 else 1) := by
  obtain ⟨h1, h2, h3, h4, hn⟩ := g
  unfold channel_Check.f
  refine Ev.bind (sums_ev c h1 h2 h4 hn) (ev_some ?_)
  unfold csums
  split <;> rfl
theorem le_tot : ∀ {l : List S44} {x : S44}, (∀ y ∈ l, 0 ≤ y.f1) → x ∈ l → x.f1 ≤ tot l
  | y :: ys, x, hn, hx => by
    have h0 := hn y List.mem_cons_self
    have h1 := tot_nonneg (l := ys) (fun z hz => hn z (List.mem_cons_of_mem _ hz))
    show x.f1 ≤ y.f1 + tot ys
    rcases List.mem_cons.1 hx with rfl | hx
    · omega
    · have := le_tot (l := ys) (fun z hz => hn z (List.mem_cons_of_mem _ hz)) hx
      omega
theorem tot_ins (x : S44) : ∀ l : List S44, tot (ins hk x l) = x.f1 + tot l
  | [] => rfl
  | y :: ys => by
    have ih := tot_ins x ys
    unfold ins
    split
    · show y.f1 + tot (ins hk x ys) = x.f1 + (y.f1 + tot ys); omega
    · rfl
theorem tot_del {id : Int} : ∀ {l : List S44} {x : S44}, look hk id l = some x → tot (del hk id l) = tot l - x.f1
  | [], x, hx => by simp [look] at hx
  | y :: ys, x, hx => by
    unfold look at hx
    unfold del
    by_cases c : hk y = id
    · rw [if_pos c] at hx ⊢
      obtain rfl := Option.some.inj hx
      show tot ys = y.f1 + tot ys - y.f1
      omega
    · rw [if_neg c] at hx ⊢
      have ih := tot_del hx
      show y.f1 + tot (del hk id ys) = y.f1 + tot ys - x.f1
      omega
/-- A channel with other amounts and holds. -/
def cwith (c : S25) (loc rem : Int) (l : List S44) : S25 := ⟨c.f0, loc, rem, c.f3, c.f4, l, c.f6⟩
/-- What holding leaves, if it does. -/
theorem chold_ok {c : S25} {id n : Int} (e : choldE c id n = 0) : cok c = true ∧ 0 < n ∧ n ≤ 4611686018427387904 ∧ c.f6 = true ∧ look hk id c.f5 = none ∧ c.f5.length < 64 ∧ c.f3 ≤ c.f1 ∧ n ≤ c.f1 - c.f3 ∧ n ≤ c.f4 - tot c.f5 ∧ chold c id n = (cwith c (c.f1 - n) c.f2 (ins hk ⟨id, n⟩ c.f5), 0) := by
  have hv : chold c id n = (cwith c (c.f1 - n) c.f2 (ins hk ⟨id, n⟩ c.f5), 0) := by unfold chold; rw [if_pos e]; rfl
  unfold choldE at e
  by_cases g : cok c = true ∧ 0 < n ∧ n ≤ 4611686018427387904
  · rw [if_pos g] at e
    by_cases o : c.f6 = false
    · rw [if_pos o] at e; exact absurd e (by decide)
    · rw [if_neg o] at e
      by_cases s : (look hk id c.f5).isSome = true
      · rw [if_pos s] at e; exact absurd e (by decide)
      · rw [if_neg s] at e
        by_cases l : c.f5.length = 64
        · rw [if_pos l] at e; exact absurd e (by decide)
        · rw [if_neg l] at e
          by_cases p : c.f1 < c.f3 ∨ n > c.f1 - c.f3
          · rw [if_pos p] at e; exact absurd e (by decide)
          · rw [if_neg p] at e
            by_cases m : n > c.f4 - tot c.f5
            · rw [if_pos m] at e; exact absurd e (by decide)
            · have := (cok_iff.1 g.1).1.2.2.1
              have hlk : look hk id c.f5 = none := by cases hq : look hk id c.f5 with | none => rfl | some x => rw [hq] at s; exact absurd rfl s
              exact ⟨g.1, g.2.1, g.2.2, by simpa using o, hlk, by omega, by omega, by omega, by omega, hv⟩
  · rw [if_neg g] at e; exact absurd e (by decide)
theorem chold_err {c : S25} {id n : Int} (e : choldE c id n ≠ 0) : chold c id n = (z25, choldE c id n) := by
  unfold chold; rw [if_neg e]
theorem cok_hold {c : S25} {id n : Int} (g : CB c) (e : choldE c id n = 0) : cok (cwith c (c.f1 - n) c.f2 (ins hk ⟨id, n⟩ c.f5)) = true ∧ CB (cwith c (c.f1 - n) c.f2 (ins hk ⟨id, n⟩ c.f5)) := by
  obtain ⟨h1, h2, h3, h4, hn⟩ := g
  obtain ⟨ok, n0, n1, o, hl, hlen, b1, b2, b3, _⟩ := chold_ok e
  obtain ⟨⟨a1, a2, a3, a4⟩, ⟨a5, a6⟩, a7, a8, a9, a10⟩ := cok_iff.1 ok
  have ht := tot_ins ⟨id, n⟩ c.f5
  have ht' : tot (ins hk ⟨id, n⟩ c.f5) = n + tot c.f5 := ht
  have hl1 : (ins hk ⟨id, n⟩ c.f5).length = c.f5.length + 1 := ins_length _ _
  have hni : ∀ y ∈ ins hk ⟨id, n⟩ c.f5, 0 ≤ y.f1 := by
    intro y hy
    rcases mem_ins.1 hy with rfl | hy
    · show 0 ≤ n; omega
    · exact hn y hy
  refine ⟨cok_iff.2 ⟨⟨a1, a2, ?_, fun e => ?_⟩, ⟨srt_ins a5 hl, fun y hy => ?_⟩, ?_, ?_, a9, ?_⟩, ?_, h2, h3, h4, hni⟩
  · show (ins hk ⟨id, n⟩ c.f5).length ≤ 64; omega
  · have e' : c.f6 = false := e
    rw [o] at e'; exact absurd e' (by decide)
  · rcases mem_ins.1 hy with rfl | hy
    · exact decide_eq_true n0
    · exact a6 y hy
  · show tot (ins hk ⟨id, n⟩ c.f5) ≤ c.f4; omega
  · show c.f1 - n ≤ 4611686018427387904; omega
  · show tot (ins hk ⟨id, n⟩ c.f5) + (c.f1 - n) + c.f2 ≤ 4611686018427387904; omega
  · show 0 ≤ c.f1 - n; omega
end Go.Proofs.Ytcfbcoinbecdfaa.B
