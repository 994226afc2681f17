/- Plain laws of the package ledger: what is behind a hold, and behind its end. -/
import Derived.Test.YtcfbcoinbecdfaaLpLC
import Derived.Test.YtcfbcoinbecdfaaLpLE
set_option linter.unusedVariables false
namespace Go.Proofs.Ytcfbcoinbecdfaa.B
open Go.RowKit Go.Proofs.Ytcfbcoinbecdfaa.P Go.Proofs.YtcfbcoinbecdfaaW.PrintWords
theorem del_ins {l : List S44} {id n : Int} (hs : Srt hk l) (hl : look hk id l = none) : del hk id (ins hk ⟨id, n⟩ l) = l := by
  refine srt_ext (srt_del (srt_ins hs hl)) hs (fun q => ?_)
  rw [look_del id q (srt_ins hs hl), look_ins]
  by_cases e : q = id
  · rw [if_pos e, e, hl]
  · rw [if_neg e, if_neg (fun h => e h.symm)]
/-- Behind a hold: what the row is, and that it may be. -/
structure Held10 (l : List S25) (id hold n : Int) (c d : S25) (a b m : List S25) : Prop where
  l_ : l = a ++ c :: b
  m_ : m = a ++ d :: b
  d_ : d = cwith c (c.f1 - n) c.f2 (ins hk ⟨hold, n⟩ c.f5)
  id_ : c.f0 = id
  ok : lok l = true
  okm : lok m = true
  lbm : LB m
  no : hold ∉ lids l
  e : choldE c hold n = 0
  ne : ∀ x ∈ a, x.f0 ≠ id
  v : lhold l id hold n = (m, 0)
theorem lhold_held {l : List S25} {id hold n : Int} (hg : LB l) (hh : 0 ≤ hold ∧ hold < 18446744073709551616) (e : (lhold l id hold n).2 = 0) : ∃ c d a b m, Held10 l id hold n c d a b m := by
  obtain ⟨ok, c, hc, hno, hE, hv⟩ := lhold_ok hg e
  obtain ⟨a, b, h1, h2, h3, h4⟩ := look_split hc
  have hm := (look_some hc).1
  obtain ⟨k1, k2⟩ := cok_hold (hg c hm).1 hE
  obtain ⟨_, n0, n1, o, hl, hlen, b1, b2, b3, _⟩ := chold_ok hE
  obtain ⟨d, hd⟩ : ∃ d, d = cwith c (c.f1 - n) c.f2 (ins hk ⟨hold, n⟩ c.f5) := ⟨_, rfl⟩
  rw [← hd] at k1 k2 hv
  rw [h4] at hv
  have hdl : LB [d] := fun x hx => by
    have e : x = d := (by simpa using hx)
    subst e
    refine ⟨k2, ?_, fun y hy => ?_⟩
    · rw [hd]; exact (hg c hm).2.1
    · rw [hd] at hy
      rcases mem_ins.1 hy with rfl | hy
      · exact hh
      · exact (hg c hm).2.2 y hy
  have hlm : LB (a ++ d :: b) := lb_mid (h1 ▸ hg) hdl
  have hok : LOK (a ++ c :: b) := h1 ▸ (lok_iff (lb_cb hg)).1 ok
  have htt := tot_ins ⟨hold, n⟩ c.f5
  refine ⟨c, d, a, b, a ++ d :: b, h1, rfl, hd, h3, ok, ?_, hlm, hno, hE, h2, hv⟩
  refine (lok_iff (lb_cb hlm)).2 (lok_mid hok (by rw [hd]; rfl) k1 ?_ ?_)
  · rw [hd]
    have htt' : tot (ins hk ⟨hold, n⟩ c.f5) = n + tot c.f5 := htt
    show tot (ins hk ⟨hold, n⟩ c.f5) + (c.f1 - n) + c.f2 = tot c.f5 + c.f1 + c.f2
    omega
  · have hn5 : d.f5 = ins hk ⟨hold, n⟩ c.f5 := by rw [hd]; rfl
    rw [hn5]
    exact nodup_mid_ins hok.2.2.2.2 (by rw [← h1]; exact hno)
theorem upd_mid {a b : List S25} {d : S25} {id : Int} (f : S25 → S25) (ha : ∀ x ∈ a, x.f0 ≠ id) (hd : d.f0 = id) : upd lk id f (a ++ d :: b) = a ++ f d :: b := by
  induction a with
  | nil =>
    show (if lk d = id then f d :: b else d :: upd lk id f b) = _
    rw [if_pos hd]; rfl
  | cons x xs ih =>
    show (if lk x = id then f x :: (xs ++ d :: b) else x :: upd lk id f (xs ++ d :: b)) = _
    rw [if_neg (ha x (by simp)), ih (fun y hy => ha y (by simp [hy]))]; rfl
theorem Held10.look {l a b m : List S25} {id hold n : Int} {c d : S25} (H : Held10 l id hold n c d a b m) : look hk hold d.f5 = some ⟨hold, n⟩ := by
  have e : d.f5 = ins hk ⟨hold, n⟩ c.f5 := by rw [H.d_]; rfl
  rw [e, look_ins, if_pos rfl]
theorem Held10.srt {l a b m : List S25} {id hold n : Int} {c d : S25} (H : Held10 l id hold n c d a b m) (hg : LB l) : Srt hk c.f5 ∧ Go.Proofs.Ytcfbcoinbecdfaa.B.look hk hold c.f5 = none ∧ 0 < n ∧ c.f6 = true ∧ n ≤ c.f1 := by
  obtain ⟨ok, n0, n1, o, hl, hlen, b1, b2, b3, _⟩ := chold_ok H.e
  obtain ⟨⟨a1, a2, a3, a4⟩, ⟨a5, a6⟩, _⟩ := cok_iff.1 ok
  have hc : c ∈ l := by rw [H.l_]; simp
  have h3 := (hg c hc).1.2.2.1
  exact ⟨a5, hl, n0, o, by omega⟩
/-- A hold that failed leaves all as it was. -/
theorem Held10.fail {l a b m : List S25} {id hold n : Int} {c d : S25} (H : Held10 l id hold n c d a b m) (hg : LB l) : lend m hold false = (l, n, 0) := by
  obtain ⟨s1, s2, s3, s4, s5⟩ := H.srt hg
  have hd : d ∈ m := by rw [H.m_]; simp
  rw [lend_of H.lbm H.okm hd H.look]
  have hd0 : d.f0 = id := by rw [H.d_]; exact H.id_
  have hdd : cwith d (if false = true then d.f1 else d.f1 + n) (if false = true then d.f2 + n else d.f2) (del hk hold d.f5) = c := by
    rw [H.d_]
    show S25.mk c.f0 (c.f1 - n + n) c.f2 c.f3 c.f4 (del hk hold (ins hk ⟨hold, n⟩ c.f5)) c.f6 = c
    rw [del_ins s1 s2, show c.f1 - n + n = c.f1 by omega]
  rw [hd0]
  show (upd lk id (fun _ => cwith d (if false = true then d.f1 else d.f1 + n) (if false = true then d.f2 + n else d.f2) (del hk hold d.f5)) m, n, (0 : Int)) = _
  rw [hdd, H.m_, upd_mid (fun _ => c) H.ne hd0, ← H.l_]
/-- A hold that was paid is theirs. -/
theorem Held10.paid {l a b m : List S25} {id hold n : Int} {c d : S25} (H : Held10 l id hold n c d a b m) (hg : LB l) : lend m hold true = (a ++ cwith c (c.f1 - n) (c.f2 + n) c.f5 :: b, n, 0) := by
  obtain ⟨s1, s2, s3, s4, s5⟩ := H.srt hg
  have hd : d ∈ m := by rw [H.m_]; simp
  rw [lend_of H.lbm H.okm hd H.look]
  have hd0 : d.f0 = id := by rw [H.d_]; exact H.id_
  have hdd : cwith d (if true = true then d.f1 else d.f1 + n) (if true = true then d.f2 + n else d.f2) (del hk hold d.f5) = cwith c (c.f1 - n) (c.f2 + n) c.f5 := by
    rw [H.d_]
    show S25.mk c.f0 (c.f1 - n) (c.f2 + n) c.f3 c.f4 (del hk hold (ins hk ⟨hold, n⟩ c.f5)) c.f6 = _
    rw [del_ins s1 s2]; rfl
  rw [hd0]
  show (upd lk id (fun _ => cwith d (if true = true then d.f1 else d.f1 + n) (if true = true then d.f2 + n else d.f2) (del hk hold d.f5)) m, n, (0 : Int)) = _
  rw [hdd, H.m_, upd_mid (fun _ => cwith c (c.f1 - n) (c.f2 + n) c.f5) H.ne hd0]
/-- What an end leaves may be. -/
theorem lok_end {l : List S25} {hold : Int} {paid : Bool} {c : S25} {x : S44} (hg : LB l) (ok : lok l = true) (hc : c ∈ l) (hx : look hk hold c.f5 = some x) : lok (lend l hold paid).1 = true ∧ LB (lend l hold paid).1 ∧ lsum (lend l hold paid).1 = lsum l ∧ (lend l hold paid).1.length = l.length ∧ hold ∉ lids (lend l hold paid).1 := by
  have hok := (lok_iff (lb_cb hg)).1 ok
  obtain ⟨h1, h2, h3, h4, h5⟩ := hok
  rw [lend_of hg ok hc hx]
  obtain ⟨a, b, e1, e2, e3, e4⟩ := look_split (look_mem (key := lk) h3 hc)
  rw [e4]
  obtain ⟨k1, k2⟩ := cok_end (id := hold) (x := x) paid (hg c hc).1 (h2 c hc) hx
  obtain ⟨d, hd⟩ : ∃ d, d = cwith c (if paid then c.f1 else c.f1 + x.f1) (if paid then c.f2 + x.f1 else c.f2) (del hk hold c.f5) := ⟨_, rfl⟩
  rw [← hd] at k1 k2
  show lok (a ++ cwith c (if paid then c.f1 else c.f1 + x.f1) (if paid then c.f2 + x.f1 else c.f2) (del hk hold c.f5) :: b) = true ∧ LB (a ++ cwith c (if paid then c.f1 else c.f1 + x.f1) (if paid then c.f2 + x.f1 else c.f2) (del hk hold c.f5) :: b) ∧ lsum (a ++ cwith c (if paid then c.f1 else c.f1 + x.f1) (if paid then c.f2 + x.f1 else c.f2) (del hk hold c.f5) :: b) = lsum l ∧ (a ++ cwith c (if paid then c.f1 else c.f1 + x.f1) (if paid then c.f2 + x.f1 else c.f2) (del hk hold c.f5) :: b).length = l.length ∧ hold ∉ lids (a ++ cwith c (if paid then c.f1 else c.f1 + x.f1) (if paid then c.f2 + x.f1 else c.f2) (del hk hold c.f5) :: b)
  rw [← hd]
  have hdl : LB [d] := fun y hy => by
    have e : y = d := (by simpa using hy)
    subst e
    refine ⟨k2, ?_, fun z hz => ?_⟩
    · rw [hd]; exact (hg c hc).2.1
    · rw [hd] at hz; exact (hg c hc).2.2 z (mem_del hz)
  have hlm : LB (a ++ d :: b) := lb_mid (e1 ▸ hg) hdl
  have htd := tot_del hx
  have hct : ctot d = ctot c := by
    rw [hd]
    show tot (del hk hold c.f5) + (if paid then c.f1 else c.f1 + x.f1) + (if paid then c.f2 + x.f1 else c.f2) = tot c.f5 + c.f1 + c.f2
    cases paid <;> simp <;> omega
  have h5' : (lids (a ++ c :: b)).Nodup := e1 ▸ h5
  have hd5 : d.f5 = del hk hold c.f5 := by rw [hd]; rfl
  refine ⟨(lok_iff (lb_cb hlm)).2 (lok_mid (e1 ▸ (lok_iff (lb_cb hg)).1 ok) (by rw [hd]; rfl) k1 hct ?_), hlm, ?_, ?_, ?_⟩
  · rw [hd5]; exact nodup_mid_sub h5' ((del_sub hold c.f5).map hk)
  · rw [e1, lsum_app, lsum_app]
    have q1 : lsum (c :: b) = ctot c + lsum b := rfl
    have q2 : lsum (d :: b) = ctot d + lsum b := rfl
    omega
  · rw [e1]; simp
  · have hs : Srt hk c.f5 := (cok_iff.1 (h2 c hc)).2.1.1
    have hin : hold ∈ c.f5.map hk := look_iff.1 (by rw [hx]; rfl)
    rw [lids_app] at h5' ⊢
    have ec : lids (c :: b) = c.f5.map hk ++ lids b := rfl
    have ed : lids (d :: b) = d.f5.map hk ++ lids b := rfl
    rw [ec] at h5'
    rw [ed, hd5]
    obtain ⟨n1, n2, n3⟩ := List.nodup_append.1 h5'
    obtain ⟨n4, n5, n6⟩ := List.nodup_append.1 n2
    intro hin2
    rcases List.mem_append.1 hin2 with q | q
    · exact n3 hold q hold (List.mem_append.2 (.inl hin)) rfl
    · rcases List.mem_append.1 q with q | q
      · have : (look hk hold (del hk hold c.f5)).isSome = true := look_iff.2 q
        rw [look_del hold hold hs, if_pos rfl] at this
        simp at this
      · exact n6 hold hin hold q rfl
end Go.Proofs.Ytcfbcoinbecdfaa.B
