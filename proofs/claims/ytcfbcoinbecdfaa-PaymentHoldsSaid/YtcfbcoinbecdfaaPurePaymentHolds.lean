/- Payments that agree with channels do so behind one more that a channel holds, and behind its end, either way. -/
import Derived.Test.YtcfbcoinbecdfaaLpLHE
import Derived.Test.YtcfbcoinbecdfaaLpPA
import Derived.Test.YtcfbcoinbecdfaaLpLW
import Derived.Test.YtcfbcoinbecdfaaLpLF
import Derived.Test.YtcfbcoinbecdfaaQPholdsx11
set_option linter.unusedVariables false
namespace Go.Proofs.Ytcfbcoinbecdfaa.B
open Go.RowKit Go.Proofs.Ytcfbcoinbecdfaa.P Go.Proofs.YtcfbcoinbecdfaaW.PrintWords
theorem lb2_of {o : List S25} (g : ∀ y ∈ o, G25 y) : LB2 o := fun c hc => by
  obtain ⟨a0, a1, a2, a3, a4, ⟨_, a5⟩, _⟩ := g c hc
  exact ⟨wf_u64 a0, fun h hh => ⟨wf_u64 (a5 h hh).1, wf_u64 (a5 h hh).2⟩⟩
theorem lb2_mid {a b : List S25} {c d : S25} (h : LB2 (a ++ c :: b)) (hd0 : d.f0 = c.f0) (hd : ∀ y ∈ d.f5, (0 ≤ y.f0 ∧ y.f0 < 18446744073709551616) ∧ (0 ≤ y.f1 ∧ y.f1 < 18446744073709551616)) : LB2 (a ++ d :: b) := fun x hx => by
  rcases List.mem_append.1 hx with hx | hx
  · exact h x (by simp [hx])
  · rcases List.mem_cons.1 hx with rfl | hx
    · exact ⟨by rw [hd0]; exact (h c (by simp)).1, hd⟩
    · exact h x (by simp [hx])
theorem held_trs {o a b mo : List S25} {id hold n : Int} {c d : S25} (H : Held10 o id hold n c d a b mo) (q : Int × Int × Int) : q ∈ trs mo ↔ q = (id, hold, n) ∨ q ∈ trs o := by
  have e5 : d.f5 = ins hk ⟨hold, n⟩ c.f5 := by rw [H.d_]; rfl
  have e0 : d.f0 = id := by rw [H.d_]; exact H.id_
  have ec := H.id_
  rw [H.l_, H.m_, trs_app, trs_app, List.mem_append, List.mem_append]
  have q1 : trs (c :: b) = c.f5.map (fun h => (c.f0, h.f0, h.f1)) ++ trs b := rfl
  have q2 : trs (d :: b) = d.f5.map (fun h => (d.f0, h.f0, h.f1)) ++ trs b := rfl
  rw [q1, q2, List.mem_append, List.mem_append, e5, e0, ec]
  have key : q ∈ (ins hk ⟨hold, n⟩ c.f5).map (fun h => (id, h.f0, h.f1)) ↔ q = (id, hold, n) ∨ q ∈ c.f5.map (fun h => (id, h.f0, h.f1)) := by
    constructor
    · intro h
      obtain ⟨x, x1, x2⟩ := List.mem_map.1 h
      rcases mem_ins.1 x1 with rfl | x1
      · exact .inl x2.symm
      · exact .inr (List.mem_map.2 ⟨x, x1, x2⟩)
    · rintro (h | h)
      · exact List.mem_map.2 ⟨⟨hold, n⟩, mem_ins.2 (.inl rfl), h.symm⟩
      · obtain ⟨x, x1, x2⟩ := List.mem_map.1 h
        exact List.mem_map.2 ⟨x, mem_ins.2 (.inr x1), x2⟩
  rw [key]
  constructor
  · rintro (h | (h | h) | h)
    · exact .inr (.inl h)
    · exact .inl h
    · exact .inr (.inr (.inl h))
    · exact .inr (.inr (.inr h))
  · rintro (h | h | h | h)
    · exact .inr (.inl (.inl h))
    · exact .inl h
    · exact .inr (.inl (.inr h))
    · exact .inr (.inr h)
theorem held_trs_len {o a b mo : List S25} {id hold n : Int} {c d : S25} (H : Held10 o id hold n c d a b mo) : (trs mo).length = (trs o).length + 1 := by
  have e5 : d.f5 = ins hk ⟨hold, n⟩ c.f5 := by rw [H.d_]; rfl
  rw [H.l_, H.m_, trs_app, trs_app]
  show (trs a ++ (d.f5.map (fun h => (d.f0, h.f0, h.f1)) ++ trs b)).length = (trs a ++ (c.f5.map (fun h => (c.f0, h.f0, h.f1)) ++ trs b)).length + 1
  rw [List.length_append, List.length_append, List.length_append, List.length_append, List.length_map, List.length_map, e5, ins_length]
  omega
theorem map_mid {a b : List S25} {c d : S25} (h : d.f0 = c.f0) : (a ++ d :: b).map (·.f0) = (a ++ c :: b).map (·.f0) := by simp [h]
theorem paymentHolds : damsonlaw13_PaymentHolds.Pure := by
  intro l o p paid gl go gp
  obtain ⟨gp0, gp1, gp2, gp3, gp4⟩ := gp
  have hp0 := wf_u64 gp0
  have hp2 := wf_u64 gp2
  have hp3 := wf_u64 gp3
  have hl : PB l := fun x hx => by
    obtain ⟨a0, a1, a2, a3, a4⟩ := gl.2 x hx
    exact ⟨wf_u64 a0, wf_u64 a2, wf_u64 a3⟩
  have ho := lb_of go.2
  have ho2 := lb2_of go.2
  apply Ev.rounds
  unfold damsonlaw13_PaymentHolds.f damsonlaw13_PaymentHolds.g
  refine Ev.bind live13 (ev_pos rfl (Ev.bind (ev_const (few_eq l)) (ev_if (fun e2 => ?_) (fun _ => ev_some rfl))))
  have hll := pfew_le e2
  obtain ⟨b3, f3, q3⟩ := few_ev o go.1
  refine Ev.bind f3 (ev_if (fun e3 => ?_) (fun _ => ev_some rfl))
  obtain ⟨n1, n2⟩ := q3.1 e3
  have ht : (trs o).length ≤ 20 * o.length := trs_le n2
  refine Ev.bind (agree_ev l o hl ho2 (by omega) (by omega) (by omega)) (ev_if (fun e4 => ?_) (fun _ => ev_some rfl))
  obtain ⟨A1, A2, A3, A4, A5⟩ := agree_iff.1 e4
  have hag : (agree l o).2 = 0 := by rw [agree_yes ⟨A1, A2, A3, A4, A5⟩]
  refine ev_pos hag ?_
  obtain ⟨p', hp'⟩ : ∃ p', p' = (⟨p.f0, p.f1, p.f2, p.f3, 1⟩ : S74) := ⟨_, rfl⟩
  have hst : Ev (fun k => payment_Start.f k l p.f0 p.f1 p.f2 p.f3 1) (pstart l p') := by rw [hp']; exact pstart_ev l ⟨p.f0, p.f1, p.f2, p.f3, 1⟩
  refine Ev.bind hst (Ev.bind (lhold_ev o p.f2 p.f0 p.f3 ho hp0 hp3.1) (ev_if (fun em => ev_if (fun eh => ?_) (fun _ => ev_some rfl)) (fun _ => ev_some rfl)))
  obtain ⟨S1, S2, S3, S4, m0, M1, M2, M3, M4, M5⟩ := pstart_ok em
  obtain ⟨c, d, a, b, mo, H⟩ := lhold_held ho hp0 eh
  rw [M1, H.v]
  have f0 : p'.f0 = p.f0 := by rw [hp']
  have fk : pkey p' = (p.f2, p.f0, p.f3) := by rw [hp']; rfl
  have hpen : pen m0 = pen l := by
    rcases M5 with rfl | ⟨k, k1, k2, rfl⟩
    · rfl
    · exact pen_erase k1 k2
  have hm0 : PB m0 := by
    rcases M5 with rfl | ⟨k, k1, k2, rfl⟩
    · exact hl
    · exact fun x hx => hl x (List.mem_of_mem_eraseIdx hx)
  have hpb' : PB [p'] := fun x hx => by
    have e : x = p' := (by simpa using hx)
    rw [e, hp']; exact ⟨hp0, hp2, hp3⟩
  have hm : PB (ins pk p' m0) := fun x hx => by
    rcases mem_ins.1 hx with rfl | hx
    · exact hpb' x (by simp)
    · exact hm0 x hx
  have hpok : pok (ins pk p' m0) = true := pok_ins M2 M3 S2 M4
  have hmlen : (ins pk p' m0).length ≤ 256 := by rw [ins_length]; omega
  have hom := (lok_iff (lb_cb H.lbm)).1 H.okm
  have hoo := (lok_iff (lb_cb ho)).1 H.ok
  have hd0 : d.f0 = c.f0 := by rw [H.d_]; rfl
  have hmo2 : LB2 mo := by
    rw [H.m_]
    refine lb2_mid (c := c) (by rw [← H.l_]; exact ho2) hd0 (fun y hy => ?_)
    have e5 : d.f5 = ins hk ⟨p.f0, p.f3⟩ c.f5 := by rw [H.d_]; rfl
    rw [e5] at hy
    rcases mem_ins.1 hy with rfl | hy
    · exact ⟨hp0, hp3⟩
    · exact (ho2 c (by rw [H.l_]; simp)).2 y hy
  have htm := held_trs_len H
  have hnew : (p.f2, p.f0, p.f3) ∉ trs o := fun q => H.no (trs_lids q)
  -- agree behind both
  have g1 : agree (ins pk p' m0) mo = (true, 0) := agree_yes ⟨hpok, hom.1, nodup_lok hom.2.2.1, fun q hq => by
    rcases (pen_ins_mem p' q m0).1 hq with ⟨_, e⟩ | hq
    · exact (held_trs H q).2 (.inl (by rw [e, fk]))
    · exact (held_trs H q).2 (.inr (A4 q (by rw [← hpen]; exact hq))), by rw [pen_ins_len, if_pos S3, htm, hpen]; omega⟩
  have g2 : agree (ins pk p' m0) o = (false, 0) := agree_not (q := (p.f2, p.f0, p.f3)) hpok A2 A3 ((pen_ins_mem p' _ m0).2 (.inl ⟨S3, fk.symm⟩)) hnew
  -- the end of the payment
  have hlook : look pk p.f0 (ins pk p' m0) = some p' := by rw [look_ins, if_pos f0]
  have hpe : pend (ins pk p' m0) p.f0 paid = (upd pk p.f0 (pset (if paid then 2 else 3)) (ins pk p' m0), 0) := by rw [pend_eq hpok hlook, if_pos S3]
  obtain ⟨st, hst2⟩ : ∃ st : Int, st = (if paid then 2 else 3) := ⟨_, rfl⟩
  have hst3 : st ≠ 1 := by rw [hst2]; cases paid <;> decide
  have hupd : upd pk p.f0 (pset st) (ins pk p' m0) = ins pk (pset st p') m0 := by
    have := upd_ins (x := p') (f := pset st) rfl (l := m0) (by show look pk p'.f0 m0 = none; exact M3)
    rw [← f0]; exact this
  rw [← hst2, hupd] at hpe
  have hpok2 : pok (ins pk (pset st p') m0) = true := by
    have := pok_upd (h := p.f0) (st := st) hpok (by rw [hst2]; cases paid <;> decide) (by rw [hst2]; cases paid <;> decide)
    rw [hupd] at this; exact this
  have hpen2 : ∀ q, q ∈ pen (ins pk (pset st p') m0) → q ∈ pen l := fun q hq => by
    rcases (pen_ins_mem (pset st p') q m0).1 hq with ⟨e, _⟩ | hq
    · exact absurd e hst3
    · rw [← hpen]; exact hq
  have hlen2 : (pen (ins pk (pset st p') m0)).length = (pen l).length := by rw [pen_ins_len, if_neg (show ¬ (pset st p').f4 = 1 from hst3), hpen]; omega
  have hb2 : PB (ins pk (pset st p') m0) := fun x hx => by
    rcases mem_ins.1 hx with rfl | hx
    · exact hpb' p' (by simp)
    · exact hm0 x hx
  -- the end of the hold
  have hle : ∃ le, lend mo p.f0 paid = (le, p.f3, 0) ∧ trs le = trs o ∧ le.map (·.f0) = o.map (·.f0) ∧ LB2 le := by
    cases paid with
    | false => exact ⟨o, H.fail ho, rfl, rfl, ho2⟩
    | true =>
      refine ⟨_, H.paid ho, ?_, ?_, ?_⟩
      · rw [H.l_, trs_app, trs_app]; rfl
      · rw [H.l_]; exact map_mid rfl
      · exact lb2_mid (c := c) (by rw [← H.l_]; exact ho2) rfl (fun y hy => (ho2 c (by rw [H.l_]; simp)).2 y hy)
  obtain ⟨le, L1, L2, L3, L4⟩ := hle
  have llen : le.length = o.length := by have := congrArg List.length L3; simpa using this
  have g3 : agree (ins pk (pset st p') m0) le = (true, 0) := agree_yes ⟨hpok2, by omega, by rw [L3]; exact A3, fun q hq => by rw [L2]; exact A4 q (hpen2 q hq), by rw [L2, hlen2]; exact A5⟩
  unfold damsonlaw13_PaymentHolds.b
  have hmolen : mo.length = o.length := by rw [H.l_, H.m_]; simp
  have hins2 : (ins pk (pset st p') m0).length ≤ 256 := by rw [ins_length]; omega
  refine Ev.bind (ev_eq (agree_ev _ mo hm hmo2 (by omega) (by omega) (by omega)) g1) (Ev.bind (ev_eq (agree_ev _ o hm ho2 (by omega) (by omega) (by omega)) g2) (Ev.bind (ev_eq (pend_ev _ p.f0 paid) hpe) (Ev.bind (ev_eq (lend_ev mo p.f0 paid H.lbm hp0) L1) (Ev.bind (ev_eq (agree_ev (ins pk (pset st p') m0) le hb2 L4 (by omega) (by omega) (by rw [L2]; omega)) g3) ?_))))
  exact ev_pos ⟨rfl, rfl, rfl, rfl, rfl, rfl, rfl, rfl, rfl⟩ (ev_some rfl)
end Go.Proofs.Ytcfbcoinbecdfaa.B
theorem Go.Proofs.Ytcfbcoinbecdfaa.Pure.PaymentHolds : Go.Proofs.Ytcfbcoinbecdfaa.P.damsonlaw13_PaymentHolds.Pure := Go.Proofs.Ytcfbcoinbecdfaa.B.paymentHolds
