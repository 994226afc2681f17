/- Whatever is done, all is as much as it was. -/
import Derived.Test.YtcfbcoinbecdfaaKpCE
import Derived.Test.YtcfbcoinbecdfaaKpCU
import Derived.Test.YtcfbcoinbecdfaaKpCL
import Derived.Test.YtcfbcoinbecdfaaQKeepsx6
import Derived.Test.YtcfbcoinbecdfaaQKeepsx5
set_option linter.unusedVariables false
namespace Go.Proofs.Ytcfbcoinbecdfaa.B
open Go.RowKit Go.Proofs.Ytcfbcoinbecdfaa.P Go.Proofs.YtcfbcoinbecdfaaW.PrintWords
theorem kheld_ev (c : S25) (g : CB c) : Ev (fun k => channel_Held.f k c.f0 c.f1 c.f2 c.f3 c.f4 c.f5 c.f6) (if cok c = true then (tot c.f5, 0) else (0, 1)) := by
  unfold channel_Held.f
  obtain ⟨g1, g2, g3, g4, gn⟩ := g
  refine Ev.bind (sums_ev c g1 g2 g4 gn) (ev_some ?_)
  unfold csums
  split <;> rfl
theorem kall_ev (c : S25) (g : CB c) : Ev (fun k => channel_All.f k c.f0 c.f1 c.f2 c.f3 c.f4 c.f5 c.f6) (if cok c = true then (tot c.f5 + c.f1 + c.f2, 0) else (0, 1)) := by
  unfold channel_All.f
  obtain ⟨g1, g2, g3, g4, gn⟩ := g
  refine Ev.bind (sums_ev c g1 g2 g4 gn) (ev_some ?_)
  unfold csums
  split <;> rfl
theorem rd_mem {l : List Int} {i : Nat} (h : i < l.length) : rd l (i : Int) ∈ l := by
  rw [rd_nat, List.getD_eq_getElem?_getD, List.getElem?_eq_getElem h]
  exact List.getElem_mem h
/-- What stays: a channel that may be, of which all is A. -/
def KInv (A : Int) (c : S25) : Prop := cok c = true ∧ CB c ∧ tot c.f5 + c.f1 + c.f2 = A
theorem ksum_eq : ∀ (ys : List S44) (s : Int), 0 ≤ s → (∀ y ∈ ys, 0 ≤ y.f1) → s + tot ys ≤ 4611686018427387904 → damsonlaw09_ChannelKeeps.sum s ys = s + tot ys
  | [], s, _, _, _ => by show s = s + 0; omega
  | y :: ys, s, h0, hn, hb => by
    have h1 := hn y List.mem_cons_self
    have hn' : ∀ z ∈ ys, 0 ≤ z.f1 := fun z hz => hn z (List.mem_cons_of_mem _ hz)
    have h2 := tot_nonneg hn'
    have e : tot (y :: ys) = y.f1 + tot ys := rfl
    show damsonlaw09_ChannelKeeps.sum (IntKind.u64.wrap (s + y.f1)) ys = s + tot (y :: ys)
    rw [u64w (by omega) (by omega), ksum_eq ys (s + y.f1) (by omega) hn' (by omega), e]
    omega
/-- What one round leaves. -/
def kone (c : S25) (m id n : Int) : S25 × Int :=
  if m = 0 ∨ m = 1 then chold c id n else if m = 2 then ((cend c id true).1, (cend c id true).2.2) else if m = 3 then ((cend c id false).1, (cend c id false).2.2) else cpush c n
theorem kone_ev (c : S25) (m id n : Int) (ok : cok c = true) (g : CB c) (n0 : 0 ≤ n) : Ev (fun k => damsonlaw09_ChannelKeeps.one k c m id n) (kone c m id n) := by
  have g' := g
  obtain ⟨g1, g2, g3, g4, gn⟩ := g'
  obtain ⟨⟨a1, a2, a3, a4⟩, ⟨a5, a6⟩, a7, a8, a9, a10⟩ := cok_iff.1 ok
  unfold damsonlaw09_ChannelKeeps.one kone
  refine ev_ite (fun _ => ?_) (fun _ => ev_ite (fun _ => ?_) (fun _ => ev_ite (fun _ => ?_) (fun _ => ?_)))
  · exact Ev.bind (hold_ev c id n g1 g2 g3 g4 gn (by omega) n0) (ev_some rfl)
  · exact Ev.bind (settle_ev c id g) (ev_some rfl)
  · exact Ev.bind (fail_ev c id g) (ev_some rfl)
  · exact Ev.bind (push_ev c n g n0) (ev_some rfl)
theorem kone_ok {A : Int} {c : S25} {m id n : Int} (hc : KInv A c) (n0 : 0 ≤ n) (e : (kone c m id n).2 = 0) : KInv A (kone c m id n).1 ∧ (kone c m id n).1.f0 = c.f0 ∧ (kone c m id n).1.f3 = c.f3 ∧ (m = 0 ∨ m = 1 → ¬ (kone c m id n).1.f1 < (kone c m id n).1.f3) := by
  obtain ⟨ok, g, hA⟩ := hc
  have g' := g
  obtain ⟨g1, g2, g3, g4, gn⟩ := g'
  obtain ⟨⟨a1, a2, a3, a4⟩, ⟨a5, a6⟩, a7, a8, a9, a10⟩ := cok_iff.1 ok
  unfold kone at e ⊢
  by_cases h1 : m = 0 ∨ m = 1
  · rw [if_pos h1] at e ⊢
    have e0 : choldE c id n = 0 := by
      by_cases q : choldE c id n = 0
      · exact q
      · rw [chold_err q] at e; exact absurd e q
    obtain ⟨_, m0, m1, o, hno, hlen, b1, b2, b3, hv⟩ := chold_ok e0
    obtain ⟨okd, gd⟩ := cok_hold g e0
    rw [hv]
    refine ⟨⟨okd, gd, ?_⟩, rfl, rfl, fun _ => ?_⟩
    · show tot (ins hk ⟨id, n⟩ c.f5) + (c.f1 - n) + c.f2 = A
      rw [tot_ins]
      show n + tot c.f5 + (c.f1 - n) + c.f2 = A
      omega
    · show ¬ (c.f1 - n < c.f3); omega
  · rw [if_neg h1] at e ⊢
    have hend : ∀ b : Bool, (cend c id b).2.2 = 0 → KInv A (cend c id b).1 ∧ (cend c id b).1.f0 = c.f0 ∧ (cend c id b).1.f3 = c.f3 := by
      intro b q
      obtain ⟨_, x, hx, hX⟩ := cend_ok q
      have hk := cok_end b g ok hx
      rw [hX]
      refine ⟨⟨hk.1, hk.2, ?_⟩, rfl, rfl⟩
      show tot (del _ id c.f5) + (if b then c.f1 else c.f1 + x.f1) + (if b then c.f2 + x.f1 else c.f2) = A
      rw [tot_del hx]
      cases b <;> simp <;> omega
    by_cases h2 : m = 2
    · rw [if_pos h2] at e ⊢
      obtain ⟨q1, q2, q3⟩ := hend true e
      exact ⟨q1, q2, q3, fun h => absurd h h1⟩
    · rw [if_neg h2] at e ⊢
      by_cases h3 : m = 3
      · rw [if_pos h3] at e ⊢
        obtain ⟨q1, q2, q3⟩ := hend false e
        exact ⟨q1, q2, q3, fun h => absurd h h1⟩
      · rw [if_neg h3] at e ⊢
        have e0 : cpushE c n = 0 := by
          unfold cpush at e
          by_cases q : cpushE c n = 0
          · exact q
          · rw [if_neg q] at e; exact absurd e q
        have hv : cpush c n = (cwith c (c.f1 + n) (c.f2 - n) c.f5, 0) := by unfold cpush; rw [if_pos e0]
        have hh : ¬ c.f2 < n := by
          unfold cpushE at e0
          by_cases q : cok c = true ∧ n ≤ 4611686018427387904
          · rw [if_pos q] at e0
            by_cases o : c.f6 = true
            · rw [if_pos o] at e0
              by_cases p : c.f2 < n
              · rw [if_pos p] at e0; exact absurd e0 (by decide)
              · exact p
            · rw [if_neg o] at e0; exact absurd e0 (by decide)
          · rw [if_neg q] at e0; exact absurd e0 (by decide)
        have ht := tot_nonneg gn
        rw [hv]
        refine ⟨⟨cok_iff.2 ⟨⟨a1, a2, a3, a4⟩, ⟨a5, a6⟩, a7, ?_, ?_, ?_⟩, ⟨?_, ?_, g3, g4, gn⟩, ?_⟩, rfl, rfl, fun h => absurd h h1⟩
        · show c.f1 + n ≤ _; omega
        · show c.f2 - n ≤ _; omega
        · show tot c.f5 + (c.f1 + n) + (c.f2 - n) ≤ _; omega
        · show 0 ≤ c.f1 + n; omega
        · show 0 ≤ c.f2 - n; omega
        · show tot c.f5 + (c.f1 + n) + (c.f2 - n) = A; omega
theorem kone_err {c : S25} {m id n : Int} (e : (kone c m id n).2 ≠ 0) : (kone c m id n).1 = z25 := by
  unfold kone at e ⊢
  by_cases h1 : m = 0 ∨ m = 1
  · rw [if_pos h1] at e ⊢
    by_cases q : choldE c id n = 0
    · obtain ⟨_, m0, m1, o, hno, hlen, b1, b2, b3, hv⟩ := chold_ok q
      rw [hv] at e; exact absurd rfl e
    · rw [chold_err q]
  · rw [if_neg h1] at e ⊢
    by_cases h2 : m = 2
    · rw [if_pos h2] at e ⊢; exact (cend_err e).1
    · rw [if_neg h2] at e ⊢
      by_cases h3 : m = 3
      · rw [if_pos h3] at e ⊢; exact (cend_err e).1
      · rw [if_neg h3] at e ⊢
        unfold cpush at e ⊢
        by_cases q : cpushE c n = 0
        · rw [if_pos q] at e; exact absurd rfl e
        · rw [if_neg q]
theorem keeps_rounds (A : Int) : ∀ (zs : List (Int × Int × Int)) (c : S25), (∀ z ∈ zs, 0 ≤ z.2.2) → KInv A c → Ev (fun k => damsonlaw09_ChannelKeeps.rounds k A zs c) true
  | [], c, _, _ => Ev.now _
  | z :: zs, c, hz, hc => by
    have ih := fun c hc => keeps_rounds A zs c (fun y hy => hz y (List.mem_cons_of_mem _ hy)) hc
    have n0 := hz z List.mem_cons_self
    have hc' := hc
    obtain ⟨ok, g, hA⟩ := hc'
    have hev := kone_ev c (z.1 % 5) z.2.1 z.2.2 ok g n0
    have hok := @kone_ok A c (z.1 % 5) z.2.1 z.2.2 hc n0
    have herr := @kone_err c (z.1 % 5) z.2.1 z.2.2
    unfold damsonlaw09_ChannelKeeps.rounds
    refine Ev.bind hev ?_
    generalize kone c (z.1 % 5) z.2.1 z.2.2 = p at hok herr
    by_cases e : p.2 = 0
    · obtain ⟨hd, h0, h3, h1⟩ := hok e
      have hd' := hd
      obtain ⟨okd, gd, hAd⟩ := hd'
      refine ev_pos e (Ev.bind (kall_ev p.1 gd) (Ev.bind (kheld_ev p.1 gd) ?_))
      rw [if_pos okd, if_pos okd, hAd]
      obtain ⟨⟨b1, b2, b3, b4⟩, ⟨b5, b6⟩, b7, b8, b9, b10⟩ := cok_iff.1 okd
      have gn := gd.2.2.2.2
      have hs : damsonlaw09_ChannelKeeps.sum 0 p.1.f5 = tot p.1.f5 := by rw [ksum_eq _ 0 (Int.le_refl 0) gn (by omega)]; omega
      refine ev_pos ⟨fun h => h1 ?_, rfl, by rw [hs], h0, h3⟩ (ih p.1 hd)
      have := Int.emod_nonneg z.1 (show (5 : Int) ≠ 0 by decide)
      omega
    · refine ev_neg e (ev_pos ?_ (ih c hc))
      rw [herr e]
      exact ⟨rfl, rfl⟩
theorem channelKeeps : damsonlaw09_ChannelKeeps.Pure := by
  intro c kinds ids ams gc w1 w2 w3
  have g := cb_of gc
  apply Ev.rounds
  unfold damsonlaw09_ChannelKeeps.f damsonlaw09_ChannelKeeps.g
  have hu : (kinds.all fun y => decide (0 ≤ y ∧ y ≤ 255)) = true := by
    rw [List.all_eq_true]
    intro y hy
    have := w1.2 y hy
    refine decide_eq_true ?_
    simp [Lit.wf, IntKind.min, IntKind.max, IntKind.signed, IntKind.bits] at this
    omega
  refine ev_pos hu (Ev.bind live09 (ev_pos rfl (ev_if (fun _ => ev_some rfl) (fun _ => ev_if (fun _ => ev_some rfl) (fun _ => Ev.bind (kall_ev c g) ?_)))))
  by_cases ok : cok c = true
  · rw [if_pos ok]
    refine ev_pos rfl (keeps_rounds _ _ c (fun z hz => ?_) ⟨ok, g, rfl⟩)
    have hm : z.2.2 ∈ ams := (List.of_mem_zip (List.of_mem_zip hz).2).2
    exact (wf_u64 (w3.2 _ hm)).1
  · rw [if_neg ok]
    refine ev_neg (by decide) (Ev.bind (ccheck_ev c g) (ev_pos ?_ (ev_some rfl)))
    rw [if_neg ok]
    exact ⟨rfl, rfl⟩
end Go.Proofs.Ytcfbcoinbecdfaa.B
theorem Go.Proofs.Ytcfbcoinbecdfaa.Pure.ChannelKeeps : Go.Proofs.Ytcfbcoinbecdfaa.P.damsonlaw09_ChannelKeeps.Pure := Go.Proofs.Ytcfbcoinbecdfaa.B.channelKeeps
