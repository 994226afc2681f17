/- Plain laws of the document's answer for channels: what is held, ended, pushed, and closed is as the package has it. -/
import Derived.Test.YtcfbcoinbecdfaaLdCF1
import Derived.Test.YtcfbcoinbecdfaaLdCP
import Derived.Test.YtcfbcoinbecdfaaLdCE
import Derived.Test.YtcfbcoinbecdfaaQLdoesx17
import Derived.Test.YtcfbcoinbecdfaaQLdoesx16
import Derived.Test.YtcfbcoinbecdfaaQLdoesx15
import Derived.Test.YtcfbcoinbecdfaaQLdoesx11
set_option linter.unusedVariables false
namespace Go.Proofs.Ytcfbcoinbecdfaa.B
open Go.RowKit Go.Proofs.Ytcfbcoinbecdfaa.P Go.Proofs.YtcfbcoinbecdfaaW.PrintWords
def rfound (o : Option S44) : Int × Int × Bool := match o with | none => (0, 0, false) | some x => (x.f0, x.f1, true)
theorem rfind_loop (l : List S44) (hl : l.length ≤ 140737488351232) (id : Int) : ∀ (ys : List S44) (i : Nat), l.drop i = ys → Ev (fun k => damsonref09_find.l0 k id l (l.length : Int) (i : Int)) (rfound (look hk id ys))
  | [], i, h => by
    have hi := drop_nil h
    refine Ev.step (fun k => by rw [damsonref09_find.l0]) ?_
    exact ev_neg (by omega) (ev_some rfl)
  | y :: ys, i, h => by
    have hi := drop_lt h
    have ih := rfind_loop l hl id ys (i + 1) (drop_next h)
    refine Ev.step (fun k => by rw [damsonref09_find.l0]) (ev_pos (by omega) (ev_pos (by omega) (ev_pos (by omega) ?_)))
    rw [drop_rd44 h, next_i hi hl]
    show Ev _ (rfound (if y.f0 = id then some y else look hk id ys))
    by_cases e : y.f0 = id
    · rw [if_pos e]; exact ev_pos e (ev_some rfl)
    · rw [if_neg e]; exact ev_neg e ih
theorem rfind_ev (l : List S44) (hl : l.length ≤ 140737488351232) (id : Int) : Ev (fun k => damsonref09_find.f k l id) (rfound (look hk id l)) := rfind_loop l hl id l 0 rfl
theorem filter_ins {x : S44} : ∀ {l : List S44}, Srt hk l → look hk x.f0 l = none → l.filter (fun y => decide (y.f0 < x.f0)) ++ x :: l.filter (fun y => decide (x.f0 < y.f0)) = ins hk x l
  | [], _, _ => rfl
  | y :: ys, hs, hn => by
    obtain ⟨h1, h2⟩ := srt_cons.1 hs
    have hne := look_none hn
    have hyn : y.f0 ≠ x.f0 := hne y List.mem_cons_self
    have hn' : look hk x.f0 ys = none := look_none_of (fun z hz => hne z (List.mem_cons_of_mem _ hz))
    have ih := filter_ins h2 hn'
    unfold ins
    by_cases c : y.f0 < x.f0
    · rw [if_pos c, List.filter_cons_of_pos (by simpa using c), List.filter_cons_of_neg (by simp; omega), List.cons_append, ih]
    · rw [if_neg c, List.filter_cons_of_neg (by simpa using c), List.filter_cons_of_pos (by simp; omega)]
      have e1 : ys.filter (fun z => decide (z.f0 < x.f0)) = [] := by
        rw [List.filter_eq_nil_iff]
        intro z hz
        have := h1 z hz
        have : y.f0 < z.f0 := this
        simp; omega
      have e2 : ys.filter (fun z => decide (x.f0 < z.f0)) = ys := by
        rw [List.filter_eq_self]
        intro z hz
        have : y.f0 < z.f0 := h1 z hz
        simp; omega
      rw [e1, e2]; rfl
theorem filter_del {id : Int} : ∀ {l : List S44}, Srt hk l → l.filter (fun y => decide (y.f0 ≠ id)) = del hk id l
  | [], _ => rfl
  | y :: ys, hs => by
    obtain ⟨h1, h2⟩ := srt_cons.1 hs
    unfold del
    by_cases c : y.f0 = id
    · rw [if_pos c, List.filter_cons_of_neg (by simpa using c), List.filter_eq_self]
      intro z hz
      have : y.f0 < z.f0 := h1 z hz
      simp; omega
    · rw [if_neg c, List.filter_cons_of_pos (by simpa using c), filter_del h2]
theorem rcopy_eq (c : S25) (h : c.f5.length < 8796093022208) : damsonref09_Copy.f c.f0 c.f1 c.f2 c.f3 c.f4 c.f5 c.f6 = some (c.f0, c.f1, c.f2, c.f3, c.f4, c.f5, c.f6) := by
  unfold damsonref09_Copy.f
  rw [if_pos (by simpa using h), List.nil_append]
theorem rholdg_ev (c : S25) (id n : Int) (g : CB c) (n0 : 0 ≤ n) : Ev (fun k => damsonref09_Hold.g k c id n) (chold c id n) := by
  unfold damsonref09_Hold.g
  refine Ev.bind (rheld_ev c g) ?_
  unfold cheld
  have g' := g
  obtain ⟨h1, h2, h3, h4, hn⟩ := g'
  have no : ∀ {e : Int}, choldE c id n = e → e ≠ 0 → chold c id n = (z25, e) := fun h he => by unfold chold; rw [h, if_neg he]
  by_cases ok : cok c = true
  · obtain ⟨⟨a1, a2, a3, a4⟩, ⟨a5, a6⟩, a7, a8, a9, a10⟩ := cok_iff.1 ok
    rw [if_pos ok]
    refine ev_pos rfl ?_
    by_cases z : n = 0
    · rw [no (e := 1) (by unfold choldE; rw [if_neg (by omega)]) (by decide)]
      exact ev_pos z (ev_some rfl)
    · refine ev_neg z (Ev.bind (rcheck04_ev [n] (by simp)) ?_)
      rw [mchk_one]
      by_cases q : n ≤ 4611686018427387904
      · rw [if_pos q]
        have hg : cok c = true ∧ 0 < n ∧ n ≤ 4611686018427387904 := ⟨ok, by omega, q⟩
        have ht := tot_nonneg hn
        refine ev_pos rfl ?_
        by_cases o : c.f6 = true
        · have o' : ¬ c.f6 = false := by rw [o]; decide
          refine ev_pos o (Ev.bind (rfind_ev c.f5 (by omega) id) ?_)
          cases hl : look hk id c.f5 with
          | some x =>
            rw [no (e := 6) (by unfold choldE; rw [if_pos hg, if_neg o', if_pos (by rw [hl]; rfl)]) (by decide)]
            exact ev_pos rfl (ev_some rfl)
          | none =>
            have s : ¬ (look hk id c.f5).isSome = true := by rw [hl]; decide
            refine ev_neg (by show ¬ (false = true); decide) (ev_const ?_)
            unfold damsonref09_Hold.m
            by_cases l : c.f5.length = 64
            · rw [if_pos l, no (e := 7) (by unfold choldE; rw [if_pos hg, if_neg o', if_neg s, if_pos l]) (by decide)]
            · rw [if_neg l]
              by_cases p1 : c.f1 < c.f3
              · rw [if_pos p1, no (e := 9) (by unfold choldE; rw [if_pos hg, if_neg o', if_neg s, if_neg l, if_pos (.inl p1)]) (by decide)]
              · rw [if_neg p1, u64w (by omega) (by omega)]
                by_cases p2 : c.f1 - c.f3 < n
                · rw [if_pos p2, no (e := 9) (by unfold choldE; rw [if_pos hg, if_neg o', if_neg s, if_neg l, if_pos (.inr p2)]) (by decide)]
                · have p : ¬ (c.f1 < c.f3 ∨ n > c.f1 - c.f3) := by omega
                  rw [if_neg p2, show (rfound none, tot c.f5, (0 : Int)).2.1 = tot c.f5 from rfl, u64w (n := c.f4 - tot c.f5) (by omega) (by omega)]
                  by_cases m : c.f4 - tot c.f5 < n
                  · rw [if_pos m, no (e := 8) (by unfold choldE; rw [if_pos hg, if_neg o', if_neg s, if_neg l, if_neg p, if_pos m]) (by decide)]
                  · rw [if_neg m, if_pos (by omega), u64w (n := c.f1 - n) (by omega) (by omega)]
                    have e0 : choldE c id n = 0 := by unfold choldE; rw [if_pos hg, if_neg o', if_neg s, if_neg l, if_neg p, if_neg m]
                    unfold chold
                    rw [if_pos e0]
                    exact congrArg (fun r => some ((⟨c.f0, c.f1 - n, c.f2, c.f3, c.f4, r, c.f6⟩ : S25), (0 : Int))) (filter_ins (x := ⟨id, n⟩) a5 hl)
        · have o' : c.f6 = false := by simpa using o
          rw [no (e := 14) (by unfold choldE; rw [if_pos hg, if_pos o']) (by decide)]
          exact ev_neg o (ev_some rfl)
      · rw [if_neg q, no (e := 1) (by unfold choldE; rw [if_neg (fun h => q h.2.2)]) (by decide)]
        exact ev_neg (by decide) (ev_some rfl)
  · rw [if_neg ok, no (e := 1) (by unfold choldE; rw [if_neg (fun h => ok h.1)]) (by decide)]
    exact ev_neg (by decide) (ev_some rfl)
theorem rhold_ev (c : S25) (id n : Int) (g : CB c) (n0 : 0 ≤ n) : Ev (fun k => damsonref09_Hold.f k c.f0 c.f1 c.f2 c.f3 c.f4 c.f5 c.f6 id n) (tup (chold c id n)) := by
  unfold damsonref09_Hold.f
  exact Ev.bind (rholdg_ev c id n g n0) (ev_some rfl)
def cwo (c : S25) (id : Int) : S25 × Int × Int := if cok c = true then (match look hk id c.f5 with | none => (z25, 0, 5) | some x => (cwith c c.f1 c.f2 (del hk id c.f5), x.f1, 0)) else (z25, 0, 1)
theorem rwog_ev (c : S25) (id : Int) (g : CB c) : Ev (fun k => damsonref09_without.g k c id) (cwo c id) := by
  unfold damsonref09_without.g cwo
  refine Ev.bind (rcheck_ev c g) ?_
  by_cases ok : cok c = true
  · obtain ⟨⟨a1, a2, a3, a4⟩, ⟨a5, a6⟩, a7, a8, a9, a10⟩ := cok_iff.1 ok
    rw [if_pos ok, if_pos ok]
    refine ev_pos rfl (Ev.bind (rfind_ev c.f5 (by omega) id) ?_)
    cases hl : look hk id c.f5 with
    | none => exact ev_neg (by show ¬ (false = true); decide) (ev_some rfl)
    | some x =>
      refine ev_pos rfl (ev_pos (by omega) (ev_some ?_))
      exact congrArg (fun r => ((⟨c.f0, c.f1, c.f2, c.f3, c.f4, r, c.f6⟩ : S25), x.f1, (0 : Int))) (filter_del a5)
  · rw [if_neg ok, if_neg ok]
    exact ev_neg (by decide) (ev_some rfl)
theorem rwo_ev (c : S25) (id : Int) (g : CB c) : Ev (fun k => damsonref09_without.f k c.f0 c.f1 c.f2 c.f3 c.f4 c.f5 c.f6 id) (tup2 (cwo c id)) := by
  unfold damsonref09_without.f
  exact Ev.bind (rwog_ev c id g) (ev_some rfl)
theorem rsettle_ev (c : S25) (id : Int) (g : CB c) : Ev (fun k => damsonref09_Settle.f k c.f0 c.f1 c.f2 c.f3 c.f4 c.f5 c.f6 id) (tup2 (cend c id true)) := by
  unfold damsonref09_Settle.f
  refine Ev.bind (rwo_ev c id g) (ev_some ?_)
  unfold cwo cend
  obtain ⟨h1, h2, h3, h4, hn⟩ := g
  by_cases ok : cok c = true
  · obtain ⟨⟨a1, a2, a3, a4⟩, ⟨a5, a6⟩, a7, a8, a9, a10⟩ := cok_iff.1 ok
    rw [if_pos ok, if_pos ok]
    cases hl : look hk id c.f5 with
    | none => rfl
    | some x =>
      have hx := le_tot hn (look_some hl).1
      have hx0 := hn x (look_some hl).1
      show (c.f0, c.f1, IntKind.u64.wrap (c.f2 + x.f1), c.f3, c.f4, del hk id c.f5, c.f6, x.f1, (0 : Int)) = _
      rw [u64w (by omega) (by omega)]
      rfl
  · rw [if_neg ok, if_neg ok]; rfl
theorem rfail_ev (c : S25) (id : Int) (g : CB c) : Ev (fun k => damsonref09_Fail.f k c.f0 c.f1 c.f2 c.f3 c.f4 c.f5 c.f6 id) (tup2 (cend c id false)) := by
  unfold damsonref09_Fail.f
  refine Ev.bind (rwo_ev c id g) (ev_some ?_)
  unfold cwo cend
  obtain ⟨h1, h2, h3, h4, hn⟩ := g
  by_cases ok : cok c = true
  · obtain ⟨⟨a1, a2, a3, a4⟩, ⟨a5, a6⟩, a7, a8, a9, a10⟩ := cok_iff.1 ok
    rw [if_pos ok, if_pos ok]
    cases hl : look hk id c.f5 with
    | none => rfl
    | some x =>
      have hx := le_tot hn (look_some hl).1
      have hx0 := hn x (look_some hl).1
      show (c.f0, IntKind.u64.wrap (c.f1 + x.f1), c.f2, c.f3, c.f4, del hk id c.f5, c.f6, x.f1, (0 : Int)) = _
      rw [u64w (by omega) (by omega)]
      rfl
  · rw [if_neg ok, if_neg ok]; rfl
theorem rpush_ev (c : S25) (n : Int) (g : CB c) (n0 : 0 ≤ n) : Ev (fun k => damsonref09_Push.f k c.f0 c.f1 c.f2 c.f3 c.f4 c.f5 c.f6 n) (tup (cpush c n)) := by
  unfold damsonref09_Push.f
  have bad : ¬ (cok c = true ∧ n ≤ 4611686018427387904) → Ev (fun k => damsonref09_Push.j0 k n true c.f0 c.f1 c.f2 c.f3 c.f4 c.f5 c.f6) (tup (cpush c n)) := by
    intro h
    rw [cpush_no (e := 1) (by unfold cpushE; rw [if_neg h]) (by decide)]
    exact Ev.step (fun k => by rw [damsonref09_Push.j0]) (ev_pos rfl (ev_some rfl))
  refine Ev.bind (rcheck_ev c g) ?_
  obtain ⟨h1, h2, h3, h4, hn⟩ := g
  by_cases ok : cok c = true
  · obtain ⟨⟨a1, a2, a3, a4⟩, ⟨a5, a6⟩, a7, a8, a9, a10⟩ := cok_iff.1 ok
    rw [if_pos ok]
    refine ev_pos rfl (Ev.bind (rcheck04_ev [n] (by simp)) ?_)
    rw [mchk_one]
    by_cases q : n ≤ 4611686018427387904
    · rw [if_pos q]
      refine Ev.step (fun k => by rw [damsonref09_Push.j0]) (ev_neg (by decide) ?_)
      have hg : cok c = true ∧ n ≤ 4611686018427387904 := ⟨ok, q⟩
      have ht := tot_nonneg hn
      by_cases o : c.f6 = true
      · refine ev_pos o ?_
        by_cases p : c.f2 < n
        · rw [cpush_no (e := 9) (by unfold cpushE; rw [if_pos hg, if_pos o, if_pos p]) (by decide)]
          exact ev_pos p (ev_some rfl)
        · have hv : cpush c n = (cwith c (c.f1 + n) (c.f2 - n) c.f5, 0) := by
            unfold cpush
            rw [if_pos]
            unfold cpushE; rw [if_pos hg, if_pos o, if_neg p]
          rw [hv]
          refine ev_neg p (ev_const ?_)
          rw [rcopy_eq c (by omega), Option.bind_some]
          show some (c.f0, IntKind.u64.wrap (c.f1 + n), IntKind.u64.wrap (c.f2 - n), c.f3, c.f4, c.f5, c.f6, (0 : Int)) = _
          rw [u64w (by omega) (by omega), u64w (by omega) (by omega)]
          rfl
      · rw [cpush_no (e := 14) (by unfold cpushE; rw [if_pos hg, if_neg o]) (by decide)]
        exact ev_neg o (ev_some rfl)
    · rw [if_neg q]
      exact bad (fun h => q h.2)
  · rw [if_neg ok]
    exact ev_neg (by decide) (bad (fun h => ok h.1))
theorem rclose_ev (c : S25) (g : CB c) : Ev (fun k => damsonref09_Close.f k c.f0 c.f1 c.f2 c.f3 c.f4 c.f5 c.f6) (tup (cclose c)) := by
  unfold damsonref09_Close.f
  refine Ev.bind (rcheck_ev c g) ?_
  by_cases ok : cok c = true
  · obtain ⟨⟨a1, a2, a3, a4⟩, ⟨a5, a6⟩, a7, a8, a9, a10⟩ := cok_iff.1 ok
    rw [if_pos ok]
    refine ev_pos rfl ?_
    by_cases o : c.f6 = true
    · refine ev_pos o ?_
      by_cases l : 0 < c.f5.length
      · rw [cclose_no (e := 10) (by unfold ccloseE; rw [if_pos ok, if_pos o, if_pos l]) (by decide)]
        exact ev_pos (by omega) (ev_some rfl)
      · have hv : cclose c = (⟨c.f0, c.f1, c.f2, c.f3, c.f4, [], false⟩, 0) := by
          unfold cclose
          rw [if_pos]
          unfold ccloseE; rw [if_pos ok, if_pos o, if_neg l]
        rw [hv]
        refine ev_neg (by omega) (ev_const ?_)
        have e : c.f5 = [] := List.length_eq_zero_iff.mp (by omega)
        rw [rcopy_eq c (by omega), Option.bind_some, e]
        rfl
    · rw [cclose_no (e := 14) (by unfold ccloseE; rw [if_pos ok, if_neg o]) (by decide)]
      exact ev_neg o (ev_some rfl)
  · rw [if_neg ok, cclose_no (e := 1) (by unfold ccloseE; rw [if_neg ok]) (by decide)]
    exact ev_neg (by decide) (ev_some rfl)
end Go.Proofs.Ytcfbcoinbecdfaa.B
