/- Plain laws of the document's answer for ledgers: what is opened, closed, pushed, held, and ended is as the package has it. -/
import Derived.Test.YtcfbcoinbecdfaaLdCD
import Derived.Test.YtcfbcoinbecdfaaLdLG
import Derived.Test.YtcfbcoinbecdfaaLdLC
import Derived.Test.YtcfbcoinbecdfaaLdLK
import Derived.Test.YtcfbcoinbecdfaaLdLN
import Derived.Test.YtcfbcoinbecdfaaLdLE
import Derived.Test.YtcfbcoinbecdfaaQLdoesx15
import Derived.Test.YtcfbcoinbecdfaaQLdoesx11
import Derived.Test.YtcfbcoinbecdfaaQLdoesx16
import Derived.Test.YtcfbcoinbecdfaaQLdoesx17
import Derived.Test.YtcfbcoinbecdfaaQLdoesx18
set_option linter.unusedVariables false
namespace Go.Proofs.Ytcfbcoinbecdfaa.B
open Go.RowKit Go.Proofs.Ytcfbcoinbecdfaa.P Go.Proofs.YtcfbcoinbecdfaaW.PrintWords
theorem rcopyl_loop (l : List S25) (hl : l.length ≤ 1000) (h5 : ∀ c ∈ l, c.f5.length ≤ 1000) : ∀ (ys : List S25) (i : Nat) (out : List S25), l.drop i = ys → out.length ≤ i → Ev (fun k => damsonref10_Copy.l0 k out l (l.length : Int) (i : Int)) (out ++ ys)
  | [], i, out, h, ho => by
    have hi := drop_nil h
    refine Ev.step (fun k => by rw [damsonref10_Copy.l0]) (ev_neg (by omega) (ev_some ?_))
    rw [List.append_nil]
  | c :: cs, i, out, h, ho => by
    have hi := drop_lt h
    have hm := h5 c (drop_mem h)
    refine Ev.step (fun k => by rw [damsonref10_Copy.l0]) (ev_pos (by omega) (ev_pos (by omega) (ev_pos (by omega) ?_)))
    rw [drop_rd25 h, next_i hi (by omega), rcopy_eq c (by omega)]
    refine Ev.bind (ev_some rfl) (ev_pos (by omega) ?_)
    exact ev_eq (rcopyl_loop l hl h5 cs (i + 1) (out ++ [c]) (drop_next h) (by rw [List.length_append, List.length_singleton]; omega)) (by rw [List.append_assoc]; rfl)
theorem rcopyl_ev (l : List S25) (hl : l.length ≤ 1000) (h5 : ∀ c ∈ l, c.f5.length ≤ 1000) : Ev (fun k => damsonref10_Copy.f k l) l := by
  unfold damsonref10_Copy.f
  exact rcopyl_loop l hl h5 l 0 [] rfl (Nat.le_refl _)
theorem hi_all {y : S25} {ys : List S25} {n : Int} (h1 : ∀ x ∈ ys, lk y < lk x) (hy : n ≤ lk y) : ys.filter (fun z => decide (z.f0 < n)) = [] ∧ ys.filter (fun z => decide (n < z.f0)) = ys := by
  refine ⟨?_, ?_⟩
  · rw [List.filter_eq_nil_iff]
    intro z hz
    have : y.f0 < z.f0 := h1 z hz
    have hy' : n ≤ y.f0 := hy
    simp; omega
  · rw [List.filter_eq_self]
    intro z hz
    have : y.f0 < z.f0 := h1 z hz
    have hy' : n ≤ y.f0 := hy
    simp; omega
theorem filter_upd {d : S25} : ∀ {l : List S25}, Srt lk l → (look lk d.f0 l).isSome = true → l.filter (fun y => decide (y.f0 < d.f0)) ++ d :: l.filter (fun y => decide (d.f0 < y.f0)) = upd lk d.f0 (fun _ => d) l
  | [], _, h => by simp [look] at h
  | y :: ys, hs, h => by
    obtain ⟨h1, h2⟩ := srt_cons.1 hs
    unfold look at h
    unfold upd
    by_cases c : lk y = d.f0
    · have c' : y.f0 = d.f0 := c
      obtain ⟨e1, e2⟩ := hi_all (n := d.f0) h1 (by omega)
      rw [if_pos c, List.filter_cons_of_neg (by simp; omega), List.filter_cons_of_neg (by simp; omega), e1, e2]
      rfl
    · rw [if_neg c] at h ⊢
      obtain ⟨x, hx⟩ := Option.isSome_iff_exists.1 h
      obtain ⟨q1, q2⟩ := look_some hx
      have q3 := h1 x q1
      have q4 : y.f0 < d.f0 := by rw [← q2]; exact q3
      rw [List.filter_cons_of_pos (by simpa using q4), List.filter_cons_of_neg (by simp; omega), List.cons_append, filter_upd h2 h]
theorem filter_insl {d : S25} : ∀ {l : List S25}, Srt lk l → look lk d.f0 l = none → l.filter (fun y => decide (y.f0 < d.f0)) ++ d :: l.filter (fun y => decide (d.f0 < y.f0)) = ins lk d l
  | [], _, _ => rfl
  | y :: ys, hs, hn => by
    obtain ⟨h1, h2⟩ := srt_cons.1 hs
    have hne := look_none hn
    have hyn : y.f0 ≠ d.f0 := hne y List.mem_cons_self
    have hn' : look lk d.f0 ys = none := look_none_of (fun z hz => hne z (List.mem_cons_of_mem _ hz))
    unfold ins
    by_cases c : lk y < lk d
    · have c' : y.f0 < d.f0 := c
      rw [if_pos c, List.filter_cons_of_pos (by simpa using c'), List.filter_cons_of_neg (by simp; omega), List.cons_append, filter_insl h2 hn']
    · have c' : ¬ y.f0 < d.f0 := c
      obtain ⟨e1, e2⟩ := hi_all (n := d.f0) h1 (by show d.f0 ≤ y.f0; omega)
      rw [if_neg c, List.filter_cons_of_neg (by simpa using c'), List.filter_cons_of_pos (by simp; omega), e1, e2]
      rfl
theorem rwith_ev (l : List S25) (d : S25) (m : List S25) (hl : l.length ≤ 100) (h5 : ∀ c ∈ l, c.f5.length ≤ 1000) (hd : d.f5.length ≤ 1000) (hm : l.filter (fun y => decide (y.f0 < d.f0)) ++ d :: l.filter (fun y => decide (d.f0 < y.f0)) = m) : Ev (fun k => damsonref10_with.g k l d) m := by
  unfold damsonref10_with.g damsonref10_with.lo damsonref10_with.hi
  refine ev_pos (by omega) ?_
  rw [List.append_assoc]
  show Ev (fun k => damsonref10_Copy.f k (l.filter (fun y => decide (y.f0 < d.f0)) ++ d :: l.filter (fun y => decide (d.f0 < y.f0)))) m
  rw [hm]
  have k1 := List.length_filter_le (fun y : S25 => decide (y.f0 < d.f0)) l
  have k2 := List.length_filter_le (fun y : S25 => decide (d.f0 < y.f0)) l
  refine rcopyl_ev m ?_ (fun c hc => ?_)
  · rw [← hm, List.length_append, List.length_cons]; omega
  · rw [← hm, List.mem_append, List.mem_cons, List.mem_filter, List.mem_filter] at hc
    rcases hc with hc | rfl | hc
    · exact h5 c hc.1
    · exact hd
    · exact h5 c hc.1
theorem lok_small {l : List S25} (hg : LB l) (ok : lok l = true) : l.length ≤ 100 ∧ ∀ c ∈ l, c.f5.length ≤ 1000 := by
  obtain ⟨h1, h2, _⟩ := (lok_iff (lb_cb hg)).1 ok
  exact ⟨by omega, fun c hc => by have := cok_len c (h2 c hc); omega⟩
theorem rmid_ev {l : List S25} {c : S25} (hg : LB l) (ok : lok l = true) (hc : look lk c.f0 l = some c) (d : S25) (e0 : d.f0 = c.f0) (hd : d.f5.length ≤ 1000) : Ev (fun k => damsonref10_with.g k l d) (upd lk c.f0 (fun _ => d) l) := by
  obtain ⟨h1, h2, h3, h4, h5⟩ := (lok_iff (lb_cb hg)).1 ok
  obtain ⟨s1, s2⟩ := lok_small hg ok
  refine rwith_ev l d _ s1 s2 hd ?_
  rw [← e0]
  exact filter_upd h3 (by rw [e0, hc]; rfl)
/-- What a change must leave, to be put back in its place. -/
def Stays (hw : S25 → S25 × Int) (c : S25) : Prop := (hw c).2 = 0 → (hw c).1.f0 = c.f0 ∧ (hw c).1.f5.length ≤ 1000
theorem cclose_stays (c : S25) : Stays cclose c := by
  intro e
  unfold cclose at e ⊢
  by_cases q : ccloseE c = 0
  · rw [if_pos q]; exact ⟨rfl, by show ([] : List S44).length ≤ 1000; decide⟩
  · rw [if_neg q] at e; exact absurd e q
theorem cpush_stays (c : S25) (n : Int) (h : c.f5.length ≤ 64) : Stays (fun c => cpush c n) c := by
  intro e
  dsimp only at e ⊢
  unfold cpush at e ⊢
  by_cases q : cpushE c n = 0
  · rw [if_pos q]; exact ⟨rfl, by show c.f5.length ≤ 1000; omega⟩
  · rw [if_neg q] at e; exact absurd e q
theorem chold_stays (c : S25) (hold n : Int) (h : c.f5.length ≤ 64) : Stays (fun c => chold c hold n) c := by
  intro e
  dsimp only at e ⊢
  unfold chold at e ⊢
  by_cases q : choldE c hold n = 0
  · rw [if_pos q]; exact ⟨rfl, by show (ins hk ⟨hold, n⟩ c.f5).length ≤ 1000; rw [ins_length]; omega⟩
  · rw [if_neg q] at e; exact absurd e q
theorem rclose10_ev (l : List S25) (id : Int) (hg : LB l) : Ev (fun k => damsonref10_Close.g k l id) (lclose l id) := by
  unfold damsonref10_Close.g lclose lchange
  refine Ev.bind (rget10_ev l id hg) ?_
  unfold lget
  by_cases ok : lok l = true
  case neg => rw [if_neg ok, if_neg ok]; exact ev_neg (show ¬ (1 : Int) = 0 by decide) (ev_some rfl)
  rw [if_pos ok, if_pos ok]
  cases e : look lk id l with
  | none => exact ev_neg (show ¬ (5 : Int) = 0 by decide) (ev_some rfl)
  | some c =>
    obtain ⟨m1, m2⟩ := look_some e
    have m2' : c.f0 = id := m2
    have hc := cok_len c (((lok_iff (lb_cb hg)).1 ok).2.1 c m1)
    refine ev_pos rfl (Ev.bind (rclose_ev c (lb_cb hg c m1)) ?_)
    dsimp only
    refine ev_ite (c := (cclose c).2 = 0) (fun e2 => ?_) (fun _ => ev_some rfl)
    obtain ⟨s1, s2⟩ := cclose_stays c e2
    subst m2'
    exact Ev.bind (rmid_ev hg ok e (cclose c).1 s1 s2) (ev_some rfl)
theorem rpush10_ev (l : List S25) (id n : Int) (hg : LB l) (n0 : 0 ≤ n) : Ev (fun k => damsonref10_Push.g k l id n) (lpush l id n) := by
  unfold damsonref10_Push.g lpush lchange
  refine Ev.bind (rget10_ev l id hg) ?_
  unfold lget
  by_cases ok : lok l = true
  case neg => rw [if_neg ok, if_neg ok]; exact ev_neg (show ¬ (1 : Int) = 0 by decide) (ev_some rfl)
  rw [if_pos ok, if_pos ok]
  cases e : look lk id l with
  | none => exact ev_neg (show ¬ (5 : Int) = 0 by decide) (ev_some rfl)
  | some c =>
    obtain ⟨m1, m2⟩ := look_some e
    have m2' : c.f0 = id := m2
    have hc := cok_len c (((lok_iff (lb_cb hg)).1 ok).2.1 c m1)
    refine ev_pos rfl (Ev.bind (rpush_ev c n (lb_cb hg c m1) n0) ?_)
    dsimp only
    refine ev_ite (c := (cpush c n).2 = 0) (fun e2 => ?_) (fun _ => ev_some rfl)
    obtain ⟨s1, s2⟩ := cpush_stays c n hc e2
    subst m2'
    exact Ev.bind (rmid_ev hg ok e (cpush c n).1 s1 s2) (ev_some rfl)
theorem lwhere_iff {l : List S25} {h : Int} (ok : lok l = true) : (lwhere l h).2 = 0 ↔ h ∈ lids l := by
  unfold lwhere
  rw [if_pos ok]
  cases e : lidx h l with
  | none => exact ⟨fun q => (by cases q), fun q => absurd q (lidx_none.1 e)⟩
  | some j =>
    refine ⟨fun _ => ?_, fun _ => rfl⟩
    by_cases q : h ∈ lids l
    · exact q
    · rw [lidx_none.2 q] at e; cases e
theorem rhold10_ev (l : List S25) (id hold n : Int) (hg : LB l) (n0 : 0 ≤ n) : Ev (fun k => damsonref10_Hold.g k l id hold n) (lhold l id hold n) := by
  unfold damsonref10_Hold.g lhold lchange
  refine Ev.bind (rget10_ev l id hg) ?_
  unfold lget
  by_cases ok : lok l = true
  case neg => rw [if_neg ok, if_neg ok]; exact ev_neg (show ¬ (1 : Int) = 0 by decide) (ev_some rfl)
  rw [if_pos ok, if_pos ok]
  cases e : look lk id l with
  | none => exact ev_neg (show ¬ (5 : Int) = 0 by decide) (ev_some rfl)
  | some c =>
    obtain ⟨m1, m2⟩ := look_some e
    have m2' : c.f0 = id := m2
    obtain ⟨z1, z2⟩ := lok_small hg ok
    have hc := cok_len c (((lok_iff (lb_cb hg)).1 ok).2.1 c m1)
    refine ev_pos rfl (Ev.bind (rwh_ev l hold (by omega) z2) ?_)
    dsimp only
    unfold lholdc
    by_cases q : hold ∈ lids l
    · rw [if_pos ((lwhere_iff ok).2 q)]
      refine ev_pos (rwh_no.2 q) (ev_some ?_)
      exact (if_neg (show ¬ (6 : Int) = 0 by decide)).symm
    · rw [if_neg (fun h => q ((lwhere_iff ok).1 h))]
      refine ev_neg (fun h => q (rwh_no.1 h)) (Ev.bind (rhold_ev c hold n (lb_cb hg c m1) n0) ?_)
      refine ev_ite (c := (chold c hold n).2 = 0) (fun e2 => ?_) (fun _ => ev_some rfl)
      obtain ⟨s1, s2⟩ := chold_stays c hold n hc e2
      subst m2'
      exact Ev.bind (rmid_ev hg ok e (chold c hold n).1 s1 s2) (ev_some rfl)
theorem rend10_ev (l : List S25) (hold : Int) (paid : Bool) (hg : LB l) : Ev (fun k => damsonref10_End.g k l hold paid) (lend l hold paid) := by
  unfold damsonref10_End.g lend
  refine Ev.bind (rwhere10_ev l hold hg) ?_
  unfold lwhere
  by_cases ok : lok l = true
  case neg => rw [if_neg ok, if_neg ok]; exact ev_neg (show ¬ (1 : Int) = 0 by decide) (ev_some rfl)
  rw [if_pos ok, if_pos ok]
  obtain ⟨h1, h2, h3, h4, h5⟩ := (lok_iff (lb_cb hg)).1 ok
  cases e : lidx hold l with
  | none => exact ev_neg (show ¬ (5 : Int) = 0 by decide) (ev_some rfl)
  | some j =>
    obtain ⟨j1, j2, j3⟩ := lidx_some (z := z25) e
    obtain ⟨c, hc⟩ : ∃ c, c = l.getD j z25 := ⟨_, rfl⟩
    dsimp only
    rw [← hc] at j2 j3 ⊢
    have hl : look lk c.f0 l = some c := look_mem h3 j2
    obtain ⟨x, hx⟩ := Option.isSome_iff_exists.1 j3
    have hcl := cok_len c (h2 c j2)
    have hdl := del_length hx
    have hs : ∀ b, (cend c hold b).1.f0 = c.f0 ∧ (cend c hold b).1.f5.length ≤ 1000 := fun b => by
      rw [cend_some (h2 c j2) hx]
      exact ⟨rfl, by show (del hk hold c.f5).length ≤ 1000; omega⟩
    have hget : lget l c.f0 = (c, 0) := by unfold lget; rw [if_pos ok, hl]
    refine ev_pos rfl (Ev.bind (ev_eq (rget10_ev l c.f0 hg) (congrArg tup hget)) (Ev.bind (rfail_ev c hold (lb_cb hg c j2)) ?_))
    cases paid with
    | false => exact ev_neg (by decide) (Ev.bind (rmid_ev hg ok hl (cend c hold false).1 (hs false).1 (hs false).2) (ev_some rfl))
    | true => exact ev_pos rfl (Ev.bind (rsettle_ev c hold (lb_cb hg c j2)) (Ev.bind (rmid_ev hg ok hl (cend c hold true).1 (hs true).1 (hs true).2) (ev_some rfl)))
theorem ins_split {c : S25} : ∀ (l : List S25), lsum (ins lk c l) = ctot c + lsum l ∧ (c.f5 = [] → lids (ins lk c l) = lids l)
  | [] => by
    refine ⟨rfl, fun h => ?_⟩
    show lids [c] = []
    unfold lids
    rw [h]; rfl
  | y :: ys => by
    obtain ⟨i1, i2⟩ := ins_split (c := c) ys
    unfold ins
    by_cases q : lk y < lk c
    · rw [if_pos q]
      have a1 : lsum (y :: ins lk c ys) = ctot y + lsum (ins lk c ys) := rfl
      have a2 : lsum (y :: ys) = ctot y + lsum ys := rfl
      refine ⟨by omega, fun h => ?_⟩
      unfold lids
      rw [i2 h]
    · rw [if_neg q]
      refine ⟨rfl, fun h => ?_⟩
      rw [lids.eq_def (c :: y :: ys)]
      dsimp only
      rw [h]; rfl
theorem lok_ins {l : List S25} {c : S25} (hg : LB l) (hc : LB [c]) (k1 : cok c = true) (k3 : c.f5.length = 0) (k4 : lok l = true) (hn : look lk c.f0 l = none) (h32 : ¬ l.length = 32) : lok (ins lk c l) = true ↔ lsum (ins lk c l) ≤ 4611686018427387904 := by
  obtain ⟨h1, h2, h3, h4, h5⟩ := (lok_iff (lb_cb hg)).1 k4
  have h0 : c.f5 = [] := List.length_eq_zero_iff.1 k3
  rw [lok_iff (lb_cb (lb_ins hg hc))]
  refine ⟨fun h => h.2.2.2.1, fun h => ⟨by rw [ins_length]; omega, fun x hx => ?_, srt_ins h3 hn, h, by rw [(ins_split l).2 h0]; exact h5⟩⟩
  rcases mem_ins.1 hx with rfl | hx
  · exact k1
  · exact h2 x hx
theorem ropen10_ev (l : List S25) (c : S25) (hg : LB l) (hc : LB [c]) : Ev (fun k => damsonref10_Open.g k l c) (lopen l c) := by
  unfold damsonref10_Open.g lopen
  refine Ev.bind (rcheck10_ev l hg) ?_
  unfold lchk
  by_cases k4 : lok l = true
  case neg => rw [if_neg k4, if_neg (fun h => k4 h.2.2.2)]; exact ev_neg (show ¬ (1 : Int) = 0 by decide) (ev_some rfl)
  rw [if_pos k4]
  refine ev_pos rfl (Ev.bind (rcheck_ev c (hc c (by simp)).1) ?_)
  by_cases k1 : cok c = true
  case neg => rw [if_neg k1, if_neg (fun h => k1 h.1)]; exact ev_neg (show ¬ (1 : Int) = 0 by decide) (ev_some rfl)
  rw [if_pos k1]
  refine ev_pos rfl ?_
  by_cases k2 : c.f6 = true
  case neg => rw [if_neg (fun h => k2 h.2.1)]; exact ev_neg k2 (ev_some rfl)
  refine ev_pos k2 ?_
  by_cases k3 : c.f5.length = 0
  case neg => rw [if_neg (fun h => k3 h.2.2.1)]; exact ev_neg k3 (ev_some rfl)
  rw [if_pos ⟨k1, k2, k3, k4⟩]
  refine ev_pos k3 ?_
  obtain ⟨h1, h2, h3, h4, h5⟩ := (lok_iff (lb_cb hg)).1 k4
  obtain ⟨z1, z2⟩ := lok_small hg k4
  obtain ⟨f1, f2⟩ := rfind10_loop l c.f0 (by omega) l 0 rfl
  cases hl : look lk c.f0 l with
  | some x =>
    obtain ⟨j, j1, j2, j3⟩ := f2 x hl
    rw [if_pos (show (some x).isSome = true from rfl)]
    exact Ev.bind (show Ev (fun k => damsonref10_find.f k l c.f0) (j : Int) from j3) (ev_neg (by omega) (ev_some rfl))
  | none =>
    rw [if_neg (show ¬ (none : Option S25).isSome = true by decide)]
    refine Ev.bind (show Ev (fun k => damsonref10_find.f k l c.f0) (-1) from f1 hl) (ev_pos (by decide) ?_)
    refine ev_ite (fun _ => ev_some rfl) (fun h32 => ?_)
    refine Ev.bind (rwith_ev l c (ins lk c l) z1 z2 (by omega) (filter_insl h3 hl)) ?_
    have hgi := lb_ins hg hc
    refine Ev.bind (rall10_ev (ins lk c l) (by rw [ins_length]; omega) (fun x hx => ?_) (lb_cb hgi)) ?_
    · rcases mem_ins.1 hx with rfl | hx
      · exact k1
      · exact h2 x hx
    have hi := lok_ins hg hc k1 k3 k4 hl h32
    by_cases s : lsum (ins lk c l) ≤ 4611686018427387904
    · rw [if_pos s, if_pos (hi.2 s)]
      exact ev_pos rfl (ev_some rfl)
    · rw [if_neg s, if_neg (fun h => s (hi.1 h))]
      exact ev_neg (by decide) (ev_some rfl)
end Go.Proofs.Ytcfbcoinbecdfaa.B
