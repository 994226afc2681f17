/- Plain laws of the package ledger: what reading a list of channels tells, and when it can be kept. -/
import Derived.Test.YtcfbcoinbecdfaaLdLD
import Derived.Test.YtcfbcoinbecdfaaLdA
import Derived.Test.YtcfbcoinbecdfaaQLdoesx4
import Derived.Test.YtcfbcoinbecdfaaQLdoesx2
set_option linter.unusedVariables false
namespace Go.Proofs.Ytcfbcoinbecdfaa.B
open Go.RowKit Go.Proofs.Ytcfbcoinbecdfaa.P Go.Proofs.YtcfbcoinbecdfaaW.PrintWords
/-- All of a channel, or why not. -/
def call0 (c : S25) : Int × Int := if cok c = true then (tot c.f5 + c.f1 + c.f2, 0) else (0, 1)
theorem all0_ev (c : S25) (g : CB c) : Ev (fun k => channel_All.f k c.f0 c.f1 c.f2 c.f3 c.f4 c.f5 c.f6) (call0 c) := by
  unfold channel_All.f
  obtain ⟨g1, g2, g3, g4, gn⟩ := g
  refine Ev.bind (sums_ev c g1 g2 g4 gn) (ev_some ?_)
  unfold csums call0
  split <;> rfl
theorem tot_all (c : S25) (g : CB c) : 0 ≤ tot c.f5 + c.f1 + c.f2 := ctot_nonneg g
theorem cok_len (c : S25) (h : cok c = true) : c.f5.length ≤ 64 := (cok_iff.1 h).1.2.2.1
/-- The holds of one channel, put behind those of the channels ahead; none: an id comes twice. -/
def lholds (i : Int) : List (Int × Int) → List S44 → Option (List (Int × Int))
  | ps, [] => some ps
  | ps, h :: hs => if ps.any (fun p => p.1 == h.f0) = true then none else lholds i (ps ++ [(h.f0, i)]) hs
/-- What a list of channels tells: where each hold lies, and why it can't be kept (0: it can). -/
def lloop : Nat → Option S25 → Int → List (Int × Int) → List S25 → List (Int × Int) × Int
  | _, _, _, ps, [] => (ps, 0)
  | i, pv, sum, ps, c :: cs => if cok c = true then
      if pv.any (fun p => decide (c.f0 ≤ p.f0)) = true then ([], 1) else
      if sum + (tot c.f5 + c.f1 + c.f2) ≤ 4611686018427387904 then (lholds (i : Int) ps c.f5).elim ([], 1) (fun ps' => lloop (i + 1) (some c) (sum + (tot c.f5 + c.f1 + c.f2)) ps' cs)
      else ([], 1)
    else ([], 1)
def lread (l : List S25) : List (Int × Int) × Int := if 32 < l.length then ([], 1) else lloop 0 none 0 [] l
theorem lholds_eq (i : Int) : ∀ (hs : List S44) (ps : List (Int × Int)), (∀ h ∈ hs, 0 ≤ h.f0 ∧ h.f0 < 18446744073709551616) → ps.length + hs.length < 1000000 → ledger_read.holds i ps hs = some (lholds i ps hs)
  | [], ps, _, _ => rfl
  | h :: hs, ps, hg, hl => by
    unfold ledger_read.holds lholds
    rw [if_pos ⟨(hg h (by simp)).1, (hg h (by simp)).2, by simp at hl; omega⟩]
    by_cases q : ps.any (fun p => p.1 == h.f0) = true
    · rw [if_pos q, if_pos q]
    · rw [if_neg q, if_neg q]
      exact lholds_eq i hs _ (fun x hx => hg x (by simp [hx])) (by simp at hl ⊢; omega)
theorem lord_eq (pv : Option S25) (c : S25) : ledger_read.ord pv c = some (pv.any (fun p => decide (c.f0 ≤ p.f0))) := by
  cases pv with
  | none => rfl
  | some p =>
    show (ledger_order.f p.f0 p.f1 p.f2 p.f3 p.f4 p.f5 p.f6 c.f0).bind _ = some (decide (c.f0 ≤ p.f0))
    unfold ledger_order.f cmp_Compare_uint64.f cmp_isNaN_uint64.f
    simp only [Option.bind_some]
    by_cases h1 : p.f0 < c.f0
    · have : ¬ c.f0 ≤ p.f0 := by omega
      simp [h1, this]
    · have : c.f0 ≤ p.f0 := by omega
      by_cases h2 : p.f0 > c.f0 <;> simp [h1, h2, this]
theorem lholds_len (i : Int) : ∀ (hs : List S44) (ps qs : List (Int × Int)), lholds i ps hs = some qs → qs.length = ps.length + hs.length
  | [], ps, qs, h => by injection h with h; subst h; rfl
  | x :: hs, ps, qs, h => by
    unfold lholds at h
    by_cases q : ps.any (fun p => p.1 == x.f0) = true
    · rw [if_pos q] at h; cases h
    · rw [if_neg q] at h
      have := lholds_len i hs _ _ h
      simp at this ⊢
      omega
theorem lloop_ev : ∀ (l : List S25) (i : Nat) (pv : Option S25) (sum : Int) (ps : List (Int × Int)), (LB l) → 0 ≤ sum → ps.length + 64 * l.length ≤ 900000 → Ev (fun k => ledger_read.loop k i pv sum ps l) (lloop i pv sum ps l)
  | [], i, pv, sum, ps, _, _, _ => by
    show Ev (fun k => some (ps, 0)) (ps, 0)
    exact ev_const rfl
  | c :: cs, i, pv, sum, ps, hg, hs, hl => by
    obtain ⟨g, _, gi⟩ := hg c (by simp)
    unfold lloop
    simp only [ledger_read.loop_cons]
    refine Ev.bind (all0_ev c g) ?_
    unfold call0
    by_cases hc : cok c = true
    · simp only [if_pos hc]
      have hT := tot_all c g
      refine ev_pos trivial ?_
      refine Ev.bind (ev_const (lord_eq pv c)) ?_
      by_cases ho : pv.any (fun p => decide (c.f0 ≤ p.f0)) = true
      · rw [if_pos ho]
        exact ev_pos ho (ev_const rfl)
      · rw [if_neg ho]
        refine ev_neg ho ?_
        refine Ev.bind (add2_ev sum _ hs hT) ?_
        unfold madd2
        by_cases hq : sum + (tot c.f5 + c.f1 + c.f2) ≤ 4611686018427387904
        · rw [if_pos hq]
          simp only [if_pos (show sum ≤ 4611686018427387904 ∧ tot c.f5 + c.f1 + c.f2 ≤ 4611686018427387904 by omega), if_neg (show ¬ sum + (tot c.f5 + c.f1 + c.f2) > 4611686018427387904 by omega)]
          refine ev_pos trivial ?_
          have h64 := cok_len c hc
          refine Ev.bind (ev_const (lholds_eq (i : Int) c.f5 ps gi (by simp at hl; omega))) ?_
          cases hh : lholds (i : Int) ps c.f5 with
          | none => exact ev_const rfl
          | some qs =>
            have := lholds_len _ _ _ _ hh
            exact lloop_ev cs (i + 1) (some c) _ qs (fun x hx => hg x (by simp [hx])) (by omega) (by simp at hl; omega)
        · rw [if_neg hq]
          by_cases h1 : sum ≤ 4611686018427387904 ∧ tot c.f5 + c.f1 + c.f2 ≤ 4611686018427387904
          · simp only [if_pos h1, if_pos (show sum + (tot c.f5 + c.f1 + c.f2) > 4611686018427387904 by omega)]
            exact ev_neg (by decide) (ev_const rfl)
          · simp only [if_neg h1]
            exact ev_neg (by decide) (ev_const rfl)
    · simp only [if_neg hc]
      exact ev_neg (by decide) (ev_const rfl)
theorem read_ev (l : List S25) (hg : LB l) : Ev (fun k => ledger_read.f k l) (lread l) := by
  unfold ledger_read.f lread
  exact ev_ite (fun _ => ev_const rfl) (fun h => lloop_ev l 0 none 0 [] hg (by omega) (by simp; omega))
theorem check10_ev (l : List S25) (hg : LB l) : Ev (fun k => ledger_Check.f k l) (lread l).2 := by
  unfold ledger_Check.f
  exact Ev.bind (read_ev l hg) (ev_const rfl)
/-- The holds, and the places of their channels. -/
def lprs : Nat → List S25 → List (Int × Int)
  | _, [] => []
  | i, c :: cs => c.f5.map (fun h => (h.f0, (i : Int))) ++ lprs (i + 1) cs
theorem lholds_yes (i : Int) : ∀ (hs : List S44) (ps : List (Int × Int)), (ps.map (·.1) ++ hs.map hk).Nodup → lholds i ps hs = some (ps ++ hs.map (fun h => (h.f0, i)))
  | [], ps, _ => by unfold lholds; simp
  | h :: hs, ps, hn => by
    unfold lholds
    have q : ¬ ps.any (fun p => p.1 == h.f0) = true := by
      intro q
      obtain ⟨p, q1, q2⟩ := List.any_eq_true.1 q
      obtain ⟨_, _, hd⟩ := List.nodup_append.1 hn
      exact hd p.1 (List.mem_map_of_mem q1) (hk h) (by simp) (by simpa using q2)
    rw [if_neg q, lholds_yes i hs _ (by simpa [List.append_assoc] using hn)]
    simp [List.append_assoc]
theorem lholds_no (i : Int) : ∀ (hs : List S44) (ps : List (Int × Int)), (ps.map (·.1)).Nodup → ¬ (ps.map (·.1) ++ hs.map hk).Nodup → lholds i ps hs = none
  | [], ps, h1, h2 => by simp at h2; exact absurd h1 h2
  | h :: hs, ps, h1, h2 => by
    unfold lholds
    by_cases q : ps.any (fun p => p.1 == h.f0) = true
    · rw [if_pos q]
    · rw [if_neg q]
      refine lholds_no i hs _ ?_ (by simpa [List.append_assoc] using h2)
      rw [List.map_append, List.nodup_append]
      refine ⟨h1, by simp, fun a ha b hb => ?_⟩
      obtain ⟨p, q1, q2⟩ := List.mem_map.1 ha
      have hb : b = h.f0 := by simpa using hb
      intro e
      exact q (List.any_eq_true.2 ⟨p, q1, by simp [q2, e, hb]⟩)
/-- What is asked of the channels from here on. -/
def LP (pv : Option S25) (sum : Int) (ps : List (Int × Int)) (l : List S25) : Prop := (∀ c ∈ l, cok c = true) ∧ (∀ p, pv = some p → ∀ c ∈ l, p.f0 < c.f0) ∧ Srt lk l ∧ sum + lsum l ≤ 4611686018427387904 ∧ (ps.map (·.1) ++ lids l).Nodup
theorem lloop_spec : ∀ (l : List S25) (i : Nat) (pv : Option S25) (sum : Int) (ps : List (Int × Int)), (∀ c ∈ l, CB c) → sum ≤ 4611686018427387904 → (ps.map (·.1)).Nodup → (LP pv sum ps l → lloop i pv sum ps l = (ps ++ lprs i l, 0)) ∧ (¬ LP pv sum ps l → lloop i pv sum ps l = ([], 1))
  | [], i, pv, sum, ps, _, h1, h2 => by
    constructor
    · intro _; unfold lloop lprs; rw [List.append_nil]
    · intro h; exact absurd ⟨fun c hc => by simp at hc, fun p _ c hc => by simp at hc, srt_nil, by unfold lsum; omega, by unfold lids; rw [List.append_nil]; exact h2⟩ h
  | c :: cs, i, pv, sum, ps, hg, h1, h2 => by
    have hcs := lsum_nonneg (l := cs) (fun x hx => hg x (List.mem_cons_of_mem _ hx))
    unfold lloop
    by_cases k1 : cok c = true
    case neg => rw [if_neg k1]; exact ⟨fun h => absurd (h.1 c List.mem_cons_self) k1, fun _ => rfl⟩
    rw [if_pos k1]
    by_cases k2 : pv.any (fun p => decide (c.f0 ≤ p.f0)) = true
    · rw [if_pos k2]
      refine ⟨fun h => ?_, fun _ => rfl⟩
      cases pv with
      | none => simp at k2
      | some p =>
        have := h.2.1 p rfl c List.mem_cons_self
        have k3 : c.f0 ≤ p.f0 := by simpa using k2
        omega
    rw [if_neg k2]
    by_cases k3 : sum + (tot c.f5 + c.f1 + c.f2) ≤ 4611686018427387904
    case neg =>
      rw [if_neg k3]
      refine ⟨fun h => ?_, fun _ => rfl⟩
      have := h.2.2.2.1
      unfold lsum ctot at this
      omega
    rw [if_pos k3]
    by_cases k4 : (ps.map (·.1) ++ c.f5.map hk).Nodup
    case neg =>
      rw [lholds_no _ _ _ h2 k4]
      refine ⟨fun h => ?_, fun _ => rfl⟩
      have := h.2.2.2.2
      unfold lids at this
      rw [← List.append_assoc] at this
      exact absurd (List.nodup_append.1 this).1 k4
    rw [lholds_yes _ _ _ k4]
    have e1 : (ps ++ c.f5.map (fun h => (h.f0, (i : Int)))).map (·.1) = ps.map (·.1) ++ c.f5.map hk := by
      rw [List.map_append, List.map_map]; rfl
    have e2 : ps ++ c.f5.map (fun h => (h.f0, (i : Int))) ++ lprs (i + 1) cs = ps ++ lprs i (c :: cs) := by
      rw [List.append_assoc]; rfl
    obtain ⟨i1, i2⟩ := lloop_spec cs (i + 1) (some c) (sum + (tot c.f5 + c.f1 + c.f2)) (ps ++ c.f5.map (fun h => (h.f0, (i : Int)))) (fun x hx => hg x (List.mem_cons_of_mem _ hx)) k3 (by rw [e1]; exact k4)
    have e3 : LP (some c) (sum + (tot c.f5 + c.f1 + c.f2)) (ps ++ c.f5.map (fun h => (h.f0, (i : Int)))) cs ↔ LP pv sum ps (c :: cs) := by
      unfold LP
      rw [e1, srt_cons]
      constructor
      · rintro ⟨a1, a2, a3, a4, a5⟩
        refine ⟨fun x hx => ?_, fun p hp x hx => ?_, ⟨fun x hx => a2 c rfl x hx, a3⟩, by unfold lsum ctot; omega, by unfold lids; rw [← List.append_assoc]; exact a5⟩
        · rcases List.mem_cons.1 hx with rfl | hx
          · exact k1
          · exact a1 x hx
        · subst hp
          have k5 : p.f0 < c.f0 := by simpa using k2
          rcases List.mem_cons.1 hx with rfl | hx
          · exact k5
          · have := a2 c rfl x hx; omega
      · rintro ⟨a1, a2, ⟨a3, a4⟩, a5, a6⟩
        refine ⟨fun x hx => a1 x (List.mem_cons_of_mem _ hx), fun p hp x hx => ?_, a4, by unfold lsum ctot at a5; omega, by unfold lids at a6; rw [← List.append_assoc] at a6; exact a6⟩
        injection hp with hp
        subst hp
        exact a3 x hx
    rw [e3, e2] at i1
    rw [e3] at i2
    exact ⟨i1, i2⟩
theorem lread_spec (l : List S25) (hg : ∀ c ∈ l, CB c) : (LOK l → lread l = (lprs 0 l, 0)) ∧ (¬ LOK l → lread l = ([], 1)) := by
  have e : LP none 0 [] l ↔ (∀ c ∈ l, cok c = true) ∧ Srt lk l ∧ lsum l ≤ 4611686018427387904 ∧ (lids l).Nodup := by
    unfold LP
    rw [Int.zero_add]
    exact ⟨fun h => ⟨h.1, h.2.2⟩, fun h => ⟨h.1, fun p hp => by simp at hp, h.2⟩⟩
  obtain ⟨i1, i2⟩ := lloop_spec l 0 none 0 [] hg (by omega) (by simp)
  rw [e] at i1 i2
  unfold lread LOK
  by_cases q : 32 < l.length
  · rw [if_pos q]; exact ⟨fun h => absurd h.1 (by omega), fun _ => rfl⟩
  · rw [if_neg q]
    exact ⟨fun h => i1 h.2, fun h => i2 (fun h1 => h ⟨by omega, h1⟩)⟩
/-- Whether channels may be. -/
def lok (l : List S25) : Bool := decide ((lread l).2 = 0)
theorem lok_iff {l : List S25} (hg : ∀ c ∈ l, CB c) : lok l = true ↔ LOK l := by
  obtain ⟨i1, i2⟩ := lread_spec l hg
  unfold lok
  rw [decide_eq_true_eq]
  by_cases h : LOK l
  · rw [i1 h]; exact ⟨fun _ => h, fun _ => rfl⟩
  · rw [i2 h]; exact ⟨fun q => by simp at q, fun q => absurd q h⟩
theorem lread_ok {l : List S25} (hg : ∀ c ∈ l, CB c) (h : lok l = true) : lread l = (lprs 0 l, 0) := (lread_spec l hg).1 ((lok_iff hg).1 h)
theorem lread_no {l : List S25} (hg : ∀ c ∈ l, CB c) (h : ¬ lok l = true) : lread l = ([], 1) := (lread_spec l hg).2 (fun q => h ((lok_iff hg).2 q))
def lchk (l : List S25) : Int := if lok l = true then 0 else 1
theorem lcheck_ev (l : List S25) (hg : LB l) : Ev (fun k => ledger_Check.f k l) (lchk l) := by
  refine ev_eq (check10_ev l hg) ?_
  unfold lchk
  by_cases h : lok l = true
  · rw [if_pos h, lread_ok (lb_cb hg) h]
  · rw [if_neg h, lread_no (lb_cb hg) h]
end Go.Proofs.Ytcfbcoinbecdfaa.B
