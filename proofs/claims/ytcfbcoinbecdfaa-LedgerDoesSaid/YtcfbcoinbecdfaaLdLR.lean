/- Plain laws of the document's answer for ledgers: which one has a hold, all of all, whether channels may be. -/
import Derived.Test.YtcfbcoinbecdfaaLdLP
import Derived.Test.YtcfbcoinbecdfaaLdCF1
import Derived.Test.YtcfbcoinbecdfaaQLdoesx13
import Derived.Test.YtcfbcoinbecdfaaQLdoesx14
set_option linter.unusedVariables false
namespace Go.Proofs.Ytcfbcoinbecdfaa.B
open Go.RowKit Go.Proofs.Ytcfbcoinbecdfaa.P Go.Proofs.YtcfbcoinbecdfaaW.PrintWords
theorem rall0_ev (c : S25) (g : CB c) : Ev (fun k => damsonref09_All.f k c.f0 c.f1 c.f2 c.f3 c.f4 c.f5 c.f6) (call0 c) := by
  unfold damsonref09_All.f
  refine Ev.bind (rheld_ev c g) ?_
  unfold cheld call0
  obtain ⟨g1, g2, g3, g4, gn⟩ := g
  by_cases ok : cok c = true
  · obtain ⟨⟨a1, a2, a3, a4⟩, ⟨a5, a6⟩, a7, a8, a9, a10⟩ := cok_iff.1 ok
    have ht := tot_nonneg gn
    rw [if_pos ok, if_pos ok]
    refine ev_pos rfl (Ev.bind (radd_ev [c.f1, c.f2, tot c.f5] (by simp) (by simp; omega)) ?_)
    rw [(madd3 g1 a8 g2 ht).1 ⟨a9, by omega, by omega⟩]
    exact ev_some (by rw [show c.f1 + c.f2 + tot c.f5 = tot c.f5 + c.f1 + c.f2 by omega])
  · rw [if_neg ok, if_neg ok]
    exact ev_neg (by decide) (ev_some rfl)
theorem rall10_loop (l : List S25) (hl : l.length ≤ 1000) (hok : ∀ c ∈ l, cok c = true) (hg : ∀ c ∈ l, CB c) : ∀ (ys : List S25) (i : Nat) (s : Int), l.drop i = ys → 0 ≤ s → s ≤ 4611686018427387904 →
    Ev (fun k => damsonref10_all.l0 k s l (l.length : Int) (i : Int)) (if s + lsum ys ≤ 4611686018427387904 then (s + lsum ys, true) else (0, false))
  | [], i, s, h, h0, h1 => by
    have hi := drop_nil h
    refine Ev.step (fun k => by rw [damsonref10_all.l0]) (ev_neg (by omega) (ev_some ?_))
    show (s, true) = if s + 0 ≤ 4611686018427387904 then (s + 0, true) else (0, false)
    rw [Int.add_zero, if_pos h1]
  | c :: cs, i, s, h, h0, h1 => by
    have hi := drop_lt h
    have hm := drop_mem h
    have hc := ctot_nonneg (hg c hm)
    have hcs : 0 ≤ lsum cs := lsum_nonneg (fun x hx => hg x (List.mem_of_mem_drop (i := i) (by rw [h]; exact List.mem_cons_of_mem _ hx)))
    have e3 : lsum (c :: cs) = ctot c + lsum cs := rfl
    have hct : ctot c ≤ 4611686018427387904 := (cok_iff.1 (hok c hm)).2.2.2.2.2
    refine Ev.step (fun k => by rw [damsonref10_all.l0]) (ev_pos (by omega) (ev_pos (by omega) (ev_pos (by omega) ?_)))
    rw [drop_rd25 h, next_i hi (by omega), e3]
    refine Ev.bind (rall0_ev c (hg c hm)) ?_
    unfold call0
    rw [if_pos (hok c hm)]
    refine Ev.bind (radd_ev [s, ctot c] (by simp) (by simp; omega)) ?_
    rw [madd_two s (ctot c) h0 hc]
    unfold madd2
    rw [if_pos ⟨h1, hct⟩]
    by_cases q : s + ctot c > 4611686018427387904
    · rw [if_pos q, if_neg (by omega)]
      exact ev_neg (by decide) (ev_some rfl)
    · rw [if_neg q]
      exact ev_pos rfl (ev_eq (rall10_loop l hl hok hg cs (i + 1) (s + ctot c) (drop_next h) (by omega) (by omega)) (by rw [Int.add_assoc]))
theorem rall10_ev (l : List S25) (hl : l.length ≤ 1000) (hok : ∀ c ∈ l, cok c = true) (hg : ∀ c ∈ l, CB c) : Ev (fun k => damsonref10_all.f k l) (if lsum l ≤ 4611686018427387904 then (lsum l, true) else (0, false)) := by
  unfold damsonref10_all.f
  exact ev_eq (rall10_loop l hl hok hg l 0 0 rfl (by omega) (by omega)) (by rw [Int.zero_add])
/-- Where a hold is; -1: nowhere. -/
def rwh (h : Int) (l : List S25) : Int := (lidx h l).elim (-1) (fun j => (j : Int))
theorem rw_l1 (l : List S25) (h : Int) (i : Nat) (c : S25) (h5 : c.f5.length ≤ 1000) : ∀ (ys : List S44) (j : Nat), c.f5.drop j = ys →
    ((look hk h ys).isSome = true → Ev (fun k => damsonref10_where.l1 k h (i : Int) l (l.length : Int) (i : Int) c.f5 (c.f5.length : Int) (j : Int)) (i : Int)) ∧
    (¬ (look hk h ys).isSome = true → ∀ r, Ev (fun k => damsonref10_where.l0 k h l (l.length : Int) (wrap64 ((i : Int) + 1))) r → Ev (fun k => damsonref10_where.l1 k h (i : Int) l (l.length : Int) (i : Int) c.f5 (c.f5.length : Int) (j : Int)) r)
  | [], j, hd => by
    have hj := drop_nil hd
    refine ⟨fun q => by simp [look] at q, fun _ r hr => ?_⟩
    refine Ev.step (fun k => by rw [damsonref10_where.l1]) ?_
    exact ev_neg (by omega) hr
  | y :: ys, j, hd => by
    have hj := drop_lt hd
    obtain ⟨i1, i2⟩ := rw_l1 l h i c h5 ys (j + 1) (drop_next hd)
    have e : look hk h (y :: ys) = if hk y = h then some y else look hk h ys := rfl
    rw [e]
    by_cases q : y.f0 = h
    · rw [if_pos q]
      refine ⟨fun _ => ?_, fun q1 => absurd rfl q1⟩
      refine Ev.step (fun k => by rw [damsonref10_where.l1]) ?_
      rw [drop_rd44 hd]
      exact ev_pos (by omega) (ev_pos (by omega) (ev_pos (by omega) (ev_pos q (ev_some rfl))))
    · rw [if_neg q]
      refine ⟨fun q1 => ?_, fun q1 r hr => ?_⟩
      · refine Ev.step (fun k => by rw [damsonref10_where.l1]) ?_
        rw [drop_rd44 hd, next_i hj (by omega)]
        exact ev_pos (by omega) (ev_pos (by omega) (ev_pos (by omega) (ev_neg q (i1 q1))))
      · refine Ev.step (fun k => by rw [damsonref10_where.l1]) ?_
        rw [drop_rd44 hd, next_i hj (by omega)]
        exact ev_pos (by omega) (ev_pos (by omega) (ev_pos (by omega) (ev_neg q (i2 q1 r hr))))
theorem rw_l0 (l : List S25) (h : Int) (hl : l.length ≤ 1000) (h5 : ∀ c ∈ l, c.f5.length ≤ 1000) : ∀ (cs : List S25) (i : Nat), l.drop i = cs → Ev (fun k => damsonref10_where.l0 k h l (l.length : Int) (i : Int)) ((lidx h cs).elim (-1) (fun j => ((i + j : Nat) : Int)))
  | [], i, hd => by
    have hi := drop_nil hd
    refine Ev.step (fun k => by rw [damsonref10_where.l0]) ?_
    exact ev_neg (by omega) (ev_some rfl)
  | c :: cs, i, hd => by
    have hi := drop_lt hd
    have ih := rw_l0 l h hl h5 cs (i + 1) (drop_next hd)
    obtain ⟨i1, i2⟩ := rw_l1 l h i c (h5 c (drop_mem hd)) c.f5 0 rfl
    refine Ev.step (fun k => by rw [damsonref10_where.l0]) ?_
    rw [drop_rd25 hd]
    refine ev_pos (by omega) (ev_pos (by omega) (ev_pos (by omega) ?_))
    unfold lidx
    by_cases q : (look hk h c.f5).isSome = true
    · rw [if_pos q]; exact i1 q
    · rw [if_neg q]
      refine i2 q _ ?_
      rw [next_i hi (by omega)]
      refine ev_eq ih ?_
      cases lidx h cs with
      | none => rfl
      | some j => show ((i + 1 + j : Nat) : Int) = ((i + (j + 1) : Nat) : Int); omega
theorem rwh_ev (l : List S25) (h : Int) (hl : l.length ≤ 1000) (h5 : ∀ c ∈ l, c.f5.length ≤ 1000) : Ev (fun k => damsonref10_where.f k l h) (rwh h l) := by
  unfold damsonref10_where.f rwh
  refine ev_eq (rw_l0 l h hl h5 l 0 rfl) ?_
  cases lidx h l with
  | none => rfl
  | some j => show ((0 + j : Nat) : Int) = (j : Int); omega
theorem rwh_no {h : Int} {l : List S25} : rwh h l ≥ 0 ↔ h ∈ lids l := by
  unfold rwh
  cases e : lidx h l with
  | none =>
    have := lidx_none.1 e
    exact ⟨fun q => absurd q (by decide), fun q => absurd q this⟩
  | some j =>
    refine ⟨fun _ => ?_, fun _ => by show (j : Int) ≥ 0; omega⟩
    by_cases q : h ∈ lids l
    · exact q
    · rw [lidx_none.2 q] at e; cases e
/-- What is asked of the channels from here on, behind those ahead. -/
def RP (pre cs : List S25) : Prop := (∀ c ∈ cs, cok c = true) ∧ (∀ p, pre.getLast? = some p → ∀ c ∈ cs, p.f0 < c.f0) ∧ Srt lk cs ∧ (lids pre ++ lids cs).Nodup
theorem lids_append : ∀ (a b : List S25), lids (a ++ b) = lids a ++ lids b
  | [], b => rfl
  | c :: cs, b => by
    show c.f5.map hk ++ lids (cs ++ b) = c.f5.map hk ++ lids cs ++ lids b
    rw [lids_append cs b, List.append_assoc]
theorem nodup_srt {l : List S44} (h : Srt hk l) : (l.map hk).Nodup := by
  unfold List.Nodup
  rw [List.pairwise_map]
  exact List.Pairwise.imp (fun q => by omega) h
theorem RP_cons {pre cs : List S25} {c : S25} (hp : (lids pre).Nodup) : RP pre (c :: cs) ↔ cok c = true ∧ (∀ p, pre.getLast? = some p → p.f0 < c.f0) ∧ (∀ h ∈ c.f5.map hk, h ∉ lids pre) ∧ RP (pre ++ [c]) cs := by
  unfold RP
  rw [srt_cons, lids_append, show lids [c] = c.f5.map hk from List.append_nil _, show lids (c :: cs) = c.f5.map hk ++ lids cs from rfl, ← List.append_assoc]
  constructor
  · rintro ⟨a1, a2, ⟨a3, a4⟩, a5⟩
    refine ⟨a1 c List.mem_cons_self, fun p q => a2 p q c List.mem_cons_self, fun h q1 q2 => ?_, fun x hx => a1 x (List.mem_cons_of_mem _ hx), fun p q x hx => ?_, a4, a5⟩
    · exact (List.nodup_append.1 (List.nodup_append.1 a5).1).2.2 h q2 h q1 rfl
    · have : c = p := by simpa using q
      subst this
      exact a3 x hx
  · rintro ⟨a1, a2, a3, a4, a5, a6, a7⟩
    have a8 := a5 c (by simp)
    refine ⟨fun x hx => ?_, fun p q x hx => ?_, ⟨a8, a6⟩, a7⟩
    · rcases List.mem_cons.1 hx with rfl | hx
      · exact a1
      · exact a4 x hx
    · rcases List.mem_cons.1 hx with rfl | hx
      · exact a2 p q
      · have := a2 p q; have := a8 x hx; omega
theorem rk_l1 (l : List S25) (i : Nat) (hl : l.length ≤ 32) (h5 : ∀ c ∈ l.take i, c.f5.length ≤ 1000) (hi : i ≤ l.length) (c : S25) (hc : c.f5.length ≤ 1000) : ∀ (ys : List S44) (j : Nat), c.f5.drop j = ys →
    ((∀ h ∈ ys.map hk, h ∉ lids (l.take i)) → ∀ r, Ev (fun k => damsonref10_Check.l0 k l l (l.length : Int) (wrap64 ((i : Int) + 1))) r → Ev (fun k => damsonref10_Check.l1 k l (i : Int) l (l.length : Int) (i : Int) c.f5 (c.f5.length : Int) (j : Int)) r) ∧
    (¬ (∀ h ∈ ys.map hk, h ∉ lids (l.take i)) → Ev (fun k => damsonref10_Check.l1 k l (i : Int) l (l.length : Int) (i : Int) c.f5 (c.f5.length : Int) (j : Int)) 1)
  | [], j, hd => by
    have hj := drop_nil hd
    refine ⟨fun _ r hr => ?_, fun q => absurd (fun h hh => by simp at hh) q⟩
    exact Ev.step (fun k => by rw [damsonref10_Check.l1]) (ev_neg (by omega) hr)
  | y :: ys, j, hd => by
    have hj := drop_lt hd
    obtain ⟨i1, i2⟩ := rk_l1 l i hl h5 hi c hc ys (j + 1) (drop_next hd)
    have step : ∀ r, (y.f0 ∈ lids (l.take i) → r = 1) → (y.f0 ∉ lids (l.take i) → Ev (fun k => damsonref10_Check.l1 k l (i : Int) l (l.length : Int) (i : Int) c.f5 (c.f5.length : Int) ((j + 1 : Nat) : Int)) r) → Ev (fun k => damsonref10_Check.l1 k l (i : Int) l (l.length : Int) (i : Int) c.f5 (c.f5.length : Int) (j : Int)) r := by
      intro r q1 q2
      refine Ev.step (fun k => by rw [damsonref10_Check.l1]) ?_
      rw [drop_rd44 hd, next_i hj (by omega), Int.toNat_natCast]
      refine ev_pos (by omega) (ev_pos (by omega) (ev_pos (by omega) (ev_pos (by omega) (ev_pos (by omega) (Ev.bind (rwh_ev (l.take i) y.f0 (by rw [List.length_take]; omega) h5) ?_)))))
      by_cases q : y.f0 ∈ lids (l.take i)
      · exact ev_pos (rwh_no.2 q) (ev_some (q1 q).symm)
      · exact ev_neg (fun e => q (rwh_no.1 e)) (q2 q)
    refine ⟨fun q r hr => step r (fun e => absurd e (q y.f0 (by simp))) (fun _ => i1 (fun h hh => q h (by simp only [List.map_cons, List.mem_cons]; exact .inr hh)) r hr), fun q => step 1 (fun _ => rfl) (fun e => i2 (fun q1 => q (fun h hh => ?_)))⟩
    rcases List.mem_cons.1 hh with rfl | hh
    · exact e
    · exact q1 h hh
theorem take_next {l cs : List S25} {i : Nat} {c : S25} (h : l.drop i = c :: cs) : l.take (i + 1) = l.take i ++ [c] := by
  have hi := drop_lt h
  rw [List.take_add_one]
  congr 1
  have : l[i]? = some c := by
    have e : (l.drop i)[0]? = some c := by rw [h]; rfl
    simpa using e
  rw [this]; rfl
theorem rk_l0 (l : List S25) (hl : l.length ≤ 32) (hg : LB l) : ∀ (cs : List S25) (i : Nat), l.drop i = cs → (∀ c ∈ l.take i, cok c = true) → (lids (l.take i)).Nodup →
    (RP (l.take i) cs → Ev (fun k => damsonref10_Check.l0 k l l (l.length : Int) (i : Int)) (if lsum l ≤ 4611686018427387904 then 0 else 1)) ∧
    (¬ RP (l.take i) cs → Ev (fun k => damsonref10_Check.l0 k l l (l.length : Int) (i : Int)) 1)
  | [], i, hd, hp, hn => by
    have hi := drop_nil hd
    rw [List.take_of_length_le hi] at hp hn ⊢
    refine ⟨fun _ => ?_, fun q => absurd ⟨fun c hc => by simp at hc, fun p _ c hc => by simp at hc, srt_nil, by show (lids l ++ []).Nodup; rw [List.append_nil]; exact hn⟩ q⟩
    refine Ev.step (fun k => by rw [damsonref10_Check.l0]) (ev_neg (by omega) (Ev.bind (rall10_ev l (by omega) hp (lb_cb hg)) ?_))
    by_cases q : lsum l ≤ 4611686018427387904
    · rw [if_pos q, if_pos q]; exact ev_pos rfl (ev_some rfl)
    · rw [if_neg q, if_neg q]; exact ev_neg (by decide) (ev_some rfl)
  | c :: cs, i, hd, hp, hn => by
    have hi := drop_lt hd
    have hm := drop_mem hd
    rw [RP_cons hn]
    have j1T : Ev (fun k => damsonref10_Check.j1 k l (i : Int) l (l.length : Int) (i : Int) true c.f0 c.f1 c.f2 c.f3 c.f4 c.f5 c.f6) 1 := Ev.step (fun k => by rw [damsonref10_Check.j1]) (ev_pos rfl (ev_some rfl))
    have core : ∀ r, (¬ cok c = true → r = 1) → (cok c = true → ¬ (∀ p, (l.take i).getLast? = some p → p.f0 < c.f0) → r = 1) → (cok c = true → (∀ p, (l.take i).getLast? = some p → p.f0 < c.f0) → Ev (fun k => damsonref10_Check.j1 k l (i : Int) l (l.length : Int) (i : Int) false c.f0 c.f1 c.f2 c.f3 c.f4 c.f5 c.f6) r) → Ev (fun k => damsonref10_Check.l0 k l l (l.length : Int) (i : Int)) r := by
      intro r q1 q2 q3
      refine Ev.step (fun k => by rw [damsonref10_Check.l0]) (ev_pos (by omega) (ev_pos (by omega) (ev_pos (by omega) ?_)))
      rw [drop_rd25 hd]
      refine Ev.bind (rcheck_ev c (hg c hm).1) ?_
      by_cases ok : cok c = true
      · rw [if_pos ok]
        refine ev_pos rfl ?_
        by_cases i0 : i = 0
        · subst i0
          refine ev_neg (by decide) (q3 ok (fun p e => by simp at e))
        · have hw : wrap64 ((i : Int) - 1) = ((i - 1 : Nat) : Int) := by rw [w64 (by omega) (by omega)]; omega
          have hla : (l.take i).getLast? = some (l.getD (i - 1) z25) := by
            rw [List.getLast?_eq_getElem?, List.length_take, Nat.min_eq_left (by omega), List.getElem?_take_of_lt (by omega), List.getD_eq_getElem?_getD]
            rw [List.getElem?_eq_getElem (by omega)]; rfl
          refine ev_pos (by omega) ?_
          rw [hw, rd25]
          refine ev_pos (by omega) (ev_pos (by omega) ?_)
          by_cases q : (l.getD (i - 1) z25).f0 < c.f0
          · rw [decide_eq_false (by omega)]
            exact q3 ok (fun p e => by rw [hla] at e; injection e with e; subst e; exact q)
          · rw [decide_eq_true (by omega), q2 ok (fun e => q (e _ hla))]
            exact j1T
      · rw [if_neg ok]
        exact ev_neg (by decide) (by rw [q1 ok]; exact j1T)
    have h5 : ∀ c ∈ l.take i, c.f5.length ≤ 1000 := fun x hx => by have := cok_len x (hp x hx); omega
    have j1F : cok c = true → ∀ r, Ev (fun k => damsonref10_Check.l1 k l (i : Int) l (l.length : Int) (i : Int) c.f5 (c.f5.length : Int) 0) r → Ev (fun k => damsonref10_Check.j1 k l (i : Int) l (l.length : Int) (i : Int) false c.f0 c.f1 c.f2 c.f3 c.f4 c.f5 c.f6) r := fun _ r hr => Ev.step (fun k => by rw [damsonref10_Check.j1]) (ev_neg (by decide) hr)
    have hh : ∀ (ok : cok c = true), (∀ h ∈ c.f5.map hk, h ∉ lids (l.take i)) → (∀ x ∈ l.take (i + 1), cok x = true) ∧ (lids (l.take (i + 1))).Nodup := by
      intro ok hd2
      rw [take_next hd]
      refine ⟨fun x hx => ?_, ?_⟩
      · rcases List.mem_append.1 hx with hx | hx
        · exact hp x hx
        · have : x = c := by simpa using hx
          rw [this]; exact ok
      · rw [lids_append, show lids [c] = c.f5.map hk from List.append_nil _, List.nodup_append]
        exact ⟨hn, nodup_srt (cok_iff.1 ok).2.1.1, fun a ha b hb e => hd2 b hb (by rw [← e]; exact ha)⟩
    constructor
    · rintro ⟨a1, a2, a3, a4⟩
      obtain ⟨b1, b2⟩ := hh a1 a3
      have ih := (rk_l0 l hl hg cs (i + 1) (drop_next hd) b1 b2).1 (by rw [take_next hd]; exact a4)
      refine core _ (fun q => absurd a1 q) (fun _ q => absurd a2 q) (fun _ _ => j1F a1 _ ?_)
      exact (rk_l1 l i hl h5 (by omega) c (by have := cok_len c a1; omega) c.f5 0 rfl).1 a3 _ (by rw [next_i hi (by omega)]; exact ih)
    · intro hno
      refine core _ (fun _ => rfl) (fun _ _ => rfl) (fun a1 a2 => j1F a1 _ ?_)
      obtain ⟨k1, k2⟩ := rk_l1 l i hl h5 (by omega) c (by have := cok_len c a1; omega) c.f5 0 rfl
      by_cases a3 : ∀ h ∈ c.f5.map hk, h ∉ lids (l.take i)
      · obtain ⟨b1, b2⟩ := hh a1 a3
        have ih := (rk_l0 l hl hg cs (i + 1) (drop_next hd) b1 b2).2 (by rw [take_next hd]; exact fun q => hno ⟨a1, a2, a3, q⟩)
        exact k1 a3 _ (by rw [next_i hi (by omega)]; exact ih)
      · exact k2 a3
theorem rcheck10_ev (l : List S25) (hg : LB l) : Ev (fun k => damsonref10_Check.f k l) (lchk l) := by
  unfold damsonref10_Check.f lchk
  by_cases h32 : (l.length : Int) > 32
  · have : ¬ lok l = true := fun q => by have := ((lok_iff (lb_cb hg)).1 q).1; omega
    rw [if_neg this]
    exact ev_pos h32 (ev_some rfl)
  · refine ev_neg h32 ?_
    obtain ⟨k1, k2⟩ := rk_l0 l (by omega) hg l 0 rfl (fun c hc => by simp at hc) (by simp [lids])
    have e : RP (l.take 0) l ↔ (∀ c ∈ l, cok c = true) ∧ Srt lk l ∧ (lids l).Nodup := by
      rw [List.take_zero]
      unfold RP
      exact ⟨fun h => ⟨h.1, h.2.2.1, h.2.2.2⟩, fun h => ⟨h.1, fun p q => by simp at q, h.2.1, h.2.2⟩⟩
    have eo : lok l = true ↔ RP (l.take 0) l ∧ lsum l ≤ 4611686018427387904 := by
      rw [lok_iff (lb_cb hg), e]
      unfold LOK
      exact ⟨fun h => ⟨⟨h.2.1, h.2.2.1, h.2.2.2.2⟩, h.2.2.2.1⟩, fun h => ⟨by omega, h.1.1, h.1.2.1, h.2, h.1.2.2⟩⟩
    by_cases q : RP (l.take 0) l
    · refine ev_eq (k1 q) ?_
      by_cases q2 : lsum l ≤ 4611686018427387904
      · rw [if_pos q2, if_pos (eo.2 ⟨q, q2⟩)]
      · rw [if_neg q2, if_neg (fun h => q2 (eo.1 h).2)]
    · refine ev_eq (k2 q) ?_
      rw [if_neg (fun h => q (eo.1 h).1)]
end Go.Proofs.Ytcfbcoinbecdfaa.B
