/- Plain laws of the package payment: when payments agree with channels. -/
import Derived.Test.YtcfbcoinbecdfaaLpPY
import Derived.Test.YtcfbcoinbecdfaaLpLU
import Derived.Test.YtcfbcoinbecdfaaQPholdsx10
set_option linter.unusedVariables false
namespace Go.Proofs.Ytcfbcoinbecdfaa.B
open Go.RowKit Go.Proofs.Ytcfbcoinbecdfaa.P Go.Proofs.YtcfbcoinbecdfaaW.PrintWords
/-- All holds, each with whose it is. -/
def trs : List S25 → List (Int × Int × Int)
  | [] => []
  | c :: cs => c.f5.map (fun h => (c.f0, h.f0, h.f1)) ++ trs cs
theorem trs_app : ∀ (a b : List S25), trs (a ++ b) = trs a ++ trs b
  | [], b => rfl
  | c :: cs, b => by
    show c.f5.map (fun h => (c.f0, h.f0, h.f1)) ++ trs (cs ++ b) = c.f5.map (fun h => (c.f0, h.f0, h.f1)) ++ trs cs ++ trs b
    rw [trs_app cs b, List.append_assoc]
theorem trs_le {n : Nat} : ∀ {o : List S25}, (∀ c ∈ o, c.f5.length ≤ n) → (trs o).length ≤ n * o.length
  | [], _ => Nat.zero_le _
  | c :: cs, h => by
    have h1 := h c List.mem_cons_self
    have h2 := trs_le (o := cs) (fun x hx => h x (List.mem_cons_of_mem _ hx))
    show (c.f5.map (fun h => (c.f0, h.f0, h.f1)) ++ trs cs).length ≤ n * (cs.length + 1)
    rw [List.length_append, List.length_map, Nat.mul_add, Nat.mul_one]; omega
theorem trs_lids {q : Int × Int × Int} : ∀ {o : List S25}, q ∈ trs o → q.2.1 ∈ lids o
  | c :: cs, h => by
    rcases List.mem_append.1 (show q ∈ c.f5.map (fun h => (c.f0, h.f0, h.f1)) ++ trs cs from h) with h | h
    · obtain ⟨x, x1, x2⟩ := List.mem_map.1 h
      subst x2
      exact List.mem_append.2 (.inl (List.mem_map.2 ⟨x, x1, rfl⟩))
    · exact List.mem_append.2 (.inr (trs_lids h))
def pkey (p : S74) : Int × Int × Int := (p.f2, p.f0, p.f3)
/-- What is pending. -/
def pen : List S74 → List (Int × Int × Int)
  | [] => []
  | p :: ps => if p.f4 = 1 then pkey p :: pen ps else pen ps
theorem pen_le : ∀ l : List S74, (pen l).length ≤ l.length
  | [] => Nat.le_refl _
  | p :: ps => by
    have := pen_le ps
    unfold pen; split <;> simp only [List.length_cons] <;> omega
theorem pen_ins_mem (x : S74) (q : Int × Int × Int) : ∀ l : List S74, q ∈ pen (ins pk x l) ↔ (x.f4 = 1 ∧ q = pkey x) ∨ q ∈ pen l
  | [] => by
    show q ∈ (if x.f4 = 1 then pkey x :: [] else []) ↔ _
    by_cases h : x.f4 = 1 <;> simp [h, pen]
  | y :: ys => by
    have ih := pen_ins_mem x q ys
    show q ∈ pen (if pk y < pk x then y :: ins pk x ys else x :: y :: ys) ↔ _
    by_cases c : pk y < pk x
    · rw [if_pos c]
      show q ∈ (if y.f4 = 1 then pkey y :: pen (ins pk x ys) else pen (ins pk x ys)) ↔ _ ∨ q ∈ (if y.f4 = 1 then pkey y :: pen ys else pen ys)
      by_cases h : y.f4 = 1
      · rw [if_pos h, if_pos h, List.mem_cons, List.mem_cons, ih]
        constructor
        · rintro (a | a | a)
          · exact .inr (.inl a)
          · exact .inl a
          · exact .inr (.inr a)
        · rintro (a | a | a)
          · exact .inr (.inl a)
          · exact .inl a
          · exact .inr (.inr a)
      · rw [if_neg h, if_neg h, ih]
    · rw [if_neg c]
      show q ∈ (if x.f4 = 1 then pkey x :: pen (y :: ys) else pen (y :: ys)) ↔ _
      by_cases h : x.f4 = 1 <;> simp [h]
theorem pen_ins_len (x : S74) : ∀ l : List S74, (pen (ins pk x l)).length = (if x.f4 = 1 then 1 else 0) + (pen l).length
  | [] => by
    show (if x.f4 = 1 then pkey x :: [] else []).length = _ + 0
    by_cases h : x.f4 = 1 <;> simp [h]
  | y :: ys => by
    have ih := pen_ins_len x ys
    show (pen (if pk y < pk x then y :: ins pk x ys else x :: y :: ys)).length = _
    by_cases c : pk y < pk x
    · rw [if_pos c]
      show (if y.f4 = 1 then pkey y :: pen (ins pk x ys) else pen (ins pk x ys)).length = _ + (if y.f4 = 1 then pkey y :: pen ys else pen ys).length
      by_cases h : y.f4 = 1
      · rw [if_pos h, if_pos h, List.length_cons, List.length_cons, ih]; omega
      · rw [if_neg h, if_neg h, ih]
    · rw [if_neg c]
      show (if x.f4 = 1 then pkey x :: pen (y :: ys) else pen (y :: ys)).length = _
      by_cases h : x.f4 = 1
      · rw [if_pos h, if_pos h, List.length_cons]; omega
      · rw [if_neg h, if_neg h]; omega
theorem pen_erase : ∀ {l : List S74} {k : Nat}, k < l.length → (l.getD k z74).f4 ≠ 1 → pen (l.eraseIdx k) = pen l
  | y :: ys, 0, _, h => by
    have h' : y.f4 ≠ 1 := h
    show pen ys = if y.f4 = 1 then pkey y :: pen ys else pen ys
    rw [if_neg h']
  | y :: ys, k + 1, hk, h => by
    have ih := pen_erase (l := ys) (k := k) (by simpa using hk) h
    show (if y.f4 = 1 then pkey y :: pen (ys.eraseIdx k) else pen (ys.eraseIdx k)) = if y.f4 = 1 then pkey y :: pen ys else pen ys
    rw [ih]
theorem upd_ins {x : S74} {f : S74 → S74} (hf : pk (f x) = pk x) : ∀ {l : List S74}, look pk (pk x) l = none → upd pk (pk x) f (ins pk x l) = ins pk (f x) l
  | [], _ => by
    show (if pk x = pk x then f x :: [] else _) = [f x]
    rw [if_pos rfl]
  | y :: ys, h => by
    have hy : pk y ≠ pk x := look_none h y List.mem_cons_self
    have ht : look pk (pk x) ys = none := by
      have e : look pk (pk x) (y :: ys) = if pk y = pk x then some y else look pk (pk x) ys := rfl
      rw [e, if_neg hy] at h
      exact h
    show upd pk (pk x) f (if pk y < pk x then y :: ins pk x ys else x :: y :: ys) = (if pk y < pk (f x) then y :: ins pk (f x) ys else f x :: y :: ys)
    rw [hf]
    by_cases c : pk y < pk x
    · rw [if_pos c, if_pos c]
      show (if pk y = pk x then f y :: ins pk x ys else y :: upd pk (pk x) f (ins pk x ys)) = _
      rw [if_neg hy, upd_ins hf ht]
    · rw [if_neg c, if_neg c]
      show (if pk x = pk x then f x :: y :: ys else _) = _
      rw [if_pos rfl]
/-- Every number of payments is what it may be. -/
def PB (l : List S74) : Prop := ∀ p ∈ l, (0 ≤ p.f0 ∧ p.f0 < 18446744073709551616) ∧ (0 ≤ p.f2 ∧ p.f2 < 18446744073709551616) ∧ (0 ≤ p.f3 ∧ p.f3 < 18446744073709551616)
/-- Every number of channels and of their holds is what it may be. -/
def LB2 (o : List S25) : Prop := ∀ c ∈ o, (0 ≤ c.f0 ∧ c.f0 < 18446744073709551616) ∧ ∀ h ∈ c.f5, (0 ≤ h.f0 ∧ h.f0 < 18446744073709551616) ∧ (0 ≤ h.f1 ∧ h.f1 < 18446744073709551616)
theorem pay_eq (hs : List (Int × Int × Int)) : ∀ (l : List S74) (m : Int), PB l → -1000000 + (l.length : Int) ≤ m → m ≤ 1000000 → payment_Agree.pay hs m l = some ((pen l).all (fun q => hs.contains q) && (m - ((pen l).length : Int) == 0))
  | [], m, _, _, _ => by
    show some (m == 0) = some (true && (m - 0 == 0))
    rw [Int.sub_zero, Bool.true_and]
  | p :: ps, m, hp, h0, h1 => by
    obtain ⟨⟨a1, a2⟩, ⟨a3, a4⟩, a5, a6⟩ := hp p List.mem_cons_self
    have hp' : PB ps := fun x hx => hp x (List.mem_cons_of_mem _ hx)
    have h0' : -1000000 + ((ps.length : Int) + 1) ≤ m := by simpa using h0
    unfold payment_Agree.pay
    rw [if_pos ⟨a1, a2, a3, a4, a5, a6⟩]
    unfold pen
    by_cases h4 : p.f4 = 1
    · rw [if_pos h4, if_pos h4]
      by_cases hc : hs.contains (p.f2, p.f0, p.f3) = true
      · rw [if_pos hc]
        have hw : IntKind.i64.wrap (m - 1) = m - 1 := by rw [IntWalk.i64_in _ (by omega)]
        have hc' : hs.contains (pkey p) = true := hc
        rw [hw, pay_eq hs ps (m - 1) hp' (by omega) (by omega), List.all_cons, hc', Bool.true_and, List.length_cons]
        have : m - 1 - ((pen ps).length : Int) = m - (((pen ps).length + 1 : Nat) : Int) := by omega
        rw [this]
      · rw [if_neg hc]
        have : hs.contains (pkey p) = false := by
          show hs.contains (p.f2, p.f0, p.f3) = false
          simpa using hc
        rw [List.all_cons, this, Bool.false_and, Bool.false_and]
    · rw [if_neg h4, if_neg h4]
      exact pay_eq hs ps m hp' (by omega) h1
theorem ch_eq : ∀ (o : List S25) (ids : List Int) (hs : List (Int × Int × Int)), LB2 o → ids.Nodup → hs.length + (trs o).length < 1000000 → ids.length + o.length < 1000 →
    payment_Agree.ch ids hs o = some (if (ids ++ o.map (·.f0)).Nodup then some (hs ++ trs o) else none)
  | [], ids, hs, _, hn, _, _ => by
    show some (some hs) = some (if (ids ++ []).Nodup then some (hs ++ []) else none)
    rw [List.append_nil, List.append_nil, if_pos hn]
  | c :: cs, ids, hs, ho, hn, h1, h2 => by
    obtain ⟨hc, hh⟩ := ho c List.mem_cons_self
    have ho' : LB2 cs := fun x hx => ho x (List.mem_cons_of_mem _ hx)
    have et : trs (c :: cs) = c.f5.map (fun h => (c.f0, h.f0, h.f1)) ++ trs cs := rfl
    rw [et, List.length_append, List.length_map] at h1
    rw [List.length_cons] at h2
    unfold payment_Agree.ch
    rw [if_pos ⟨hc, List.all_eq_true.2 (fun h hm => decide_eq_true (by obtain ⟨⟨q1, q2⟩, q3, q4⟩ := hh h hm; exact ⟨q1, q2, q3, q4⟩)), by omega, by omega⟩]
    by_cases hct : ids.contains c.f0 = true
    · rw [if_pos hct, if_neg]
      intro q
      rw [List.nodup_append] at q
      exact q.2.2 c.f0 (by simpa using hct) c.f0 (by simp) rfl
    · have hcm : c.f0 ∉ ids := by simpa using hct
      rw [if_neg hct, ch_eq cs (ids ++ [c.f0]) (hs ++ c.f5.map (fun h => (c.f0, h.f0, h.f1))) ho' (by
        rw [List.nodup_append]
        exact ⟨hn, by simp, fun a ha b hb e => by have : b = c.f0 := (by simpa using hb); rw [e, this] at ha; exact hcm ha⟩) (by rw [List.length_append, List.length_map]; omega) (by rw [List.length_append, List.length_singleton]; omega)]
      rw [et, List.append_assoc, List.append_assoc]; rfl
/-- Whether payments agree with channels, or why not. -/
def agree (l : List S74) (o : List S25) : Bool × Int := if pok l = true ∧ o.length ≤ 32 ∧ (o.map (·.f0)).Nodup then ((pen l).all (fun q => (trs o).contains q) && (((trs o).length : Int) - ((pen l).length : Int) == 0), 0) else (false, 1)
theorem agree_ev (l : List S74) (o : List S25) (hl : PB l) (ho : LB2 o) (h1 : l.length ≤ 1000) (h2 : o.length ≤ 900) (h3 : (trs o).length < 900000) : Ev (fun k => payment_Agree.f k l o) (agree l o) := by
  unfold payment_Agree.f agree
  refine Ev.bind (pcheck_ev l) ?_
  by_cases ok : pok l = true
  case neg => rw [if_neg ok, if_neg (show ¬ (pok l = true ∧ o.length ≤ 32 ∧ (o.map (·.f0)).Nodup) from fun h => ok h.1)]; exact ev_neg (by decide) (ev_some rfl)
  rw [if_pos ok]
  refine ev_pos rfl ?_
  by_cases h32 : 32 < o.length
  · rw [if_neg (show ¬ (pok l = true ∧ o.length ≤ 32 ∧ (o.map (·.f0)).Nodup) from fun h => by omega)]; exact ev_neg (not_not_intro h32) (ev_some rfl)
  refine ev_pos h32 (ev_const ?_)
  rw [ch_eq o [] [] ho (by simp) (by simpa using (show (trs o).length < 1000000 by omega)) (by simpa using (show o.length < 1000 by omega)), List.nil_append, List.nil_append]
  by_cases hn : (o.map (·.f0)).Nodup
  · rw [if_pos hn, if_pos ⟨ok, by omega, hn⟩]
    show ((payment_Agree.pay (trs o) ((trs o).length : Int) l).bind fun b => some (b, (0 : Int))) = _
    rw [pay_eq (trs o) l _ hl (by omega) (by omega)]; rfl
  · rw [if_neg hn, if_neg (fun h => hn h.2.2)]; rfl
theorem agree_iff {l : List S74} {o : List S25} : (agree l o).1 = true ↔ pok l = true ∧ o.length ≤ 32 ∧ (o.map (·.f0)).Nodup ∧ (∀ q ∈ pen l, q ∈ trs o) ∧ (trs o).length = (pen l).length := by
  unfold agree
  by_cases h : pok l = true ∧ o.length ≤ 32 ∧ (o.map (·.f0)).Nodup
  · rw [if_pos h]
    show ((pen l).all (fun q => (trs o).contains q) && (((trs o).length : Int) - ((pen l).length : Int) == 0)) = true ↔ _
    rw [Bool.and_eq_true, List.all_eq_true, beq_iff_eq]
    constructor
    · rintro ⟨a, b⟩
      exact ⟨h.1, h.2.1, h.2.2, fun q hq => by simpa using a q hq, by omega⟩
    · rintro ⟨_, _, _, a, b⟩
      exact ⟨fun q hq => by simpa using a q hq, by omega⟩
  · rw [if_neg h]
    exact ⟨fun q => by simp at q, fun q => absurd ⟨q.1, q.2.1, q.2.2.1⟩ h⟩
theorem agree_yes {l : List S74} {o : List S25} (h : pok l = true ∧ o.length ≤ 32 ∧ (o.map (·.f0)).Nodup ∧ (∀ q ∈ pen l, q ∈ trs o) ∧ (trs o).length = (pen l).length) : agree l o = (true, 0) := by
  have h1 := agree_iff.2 h
  have h2 : (agree l o).2 = 0 := by unfold agree; rw [if_pos ⟨h.1, h.2.1, h.2.2.1⟩]
  exact Prod.ext h1 h2
theorem agree_not {l : List S74} {o : List S25} {q : Int × Int × Int} (h1 : pok l = true) (h2 : o.length ≤ 32) (h3 : (o.map (·.f0)).Nodup) (hq : q ∈ pen l) (hn : q ∉ trs o) : agree l o = (false, 0) := by
  have a : (agree l o).1 = false := by
    cases e : (agree l o).1 with
    | false => rfl
    | true => exact absurd ((agree_iff.1 e).2.2.2.1 q hq) hn
  have h2 : (agree l o).2 = 0 := by unfold agree; rw [if_pos ⟨h1, h2, h3⟩]
  exact Prod.ext a h2
theorem nodup_lok {o : List S25} (h : Srt lk o) : (o.map (·.f0)).Nodup := by
  unfold List.Nodup
  rw [List.pairwise_map]
  exact List.Pairwise.imp (fun {a b} (q : lk a < lk b) => fun e => by have e' : a.f0 = b.f0 := e; have q' : a.f0 < b.f0 := q; omega) (show List.Pairwise (fun a b => lk a < lk b) o from h)
end Go.Proofs.Ytcfbcoinbecdfaa.B
