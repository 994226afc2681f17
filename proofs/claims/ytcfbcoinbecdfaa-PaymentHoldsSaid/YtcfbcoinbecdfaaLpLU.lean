/- Plain words of the package ledger: one channel of many changed. -/
import Derived.Test.YtcfbcoinbecdfaaLpLP
set_option linter.unusedVariables false
namespace Go.Proofs.Ytcfbcoinbecdfaa.B
open Go.RowKit Go.Proofs.Ytcfbcoinbecdfaa.P Go.Proofs.YtcfbcoinbecdfaaW.PrintWords
theorem look_split {id : Int} {c : S25} : ∀ {l : List S25}, look lk id l = some c → ∃ a b, l = a ++ c :: b ∧ (∀ x ∈ a, lk x ≠ id) ∧ lk c = id ∧ ∀ f, upd lk id f l = a ++ f c :: b
  | y :: ys, h => by
    have e : look lk id (y :: ys) = if lk y = id then some y else look lk id ys := rfl
    rw [e] at h
    by_cases q : lk y = id
    · rw [if_pos q] at h
      injection h with h
      subst h
      refine ⟨[], ys, rfl, fun x hx => by simp at hx, q, fun f => ?_⟩
      show (if lk y = id then f y :: ys else y :: upd lk id f ys) = f y :: ys
      rw [if_pos q]
    · rw [if_neg q] at h
      obtain ⟨a, b, h1, h2, h3, h4⟩ := look_split h
      refine ⟨y :: a, b, by rw [h1]; rfl, fun x hx => ?_, h3, fun f => ?_⟩
      · rcases List.mem_cons.1 hx with rfl | hx
        · exact q
        · exact h2 x hx
      · show (if lk y = id then f y :: ys else y :: upd lk id f ys) = y :: (a ++ f c :: b)
        rw [if_neg q, h4]
theorem lids_app : ∀ (a b : List S25), lids (a ++ b) = lids a ++ lids b
  | [], b => rfl
  | c :: cs, b => by
    show c.f5.map hk ++ lids (cs ++ b) = c.f5.map hk ++ lids cs ++ lids b
    rw [lids_app cs b, List.append_assoc]
theorem lsum_app : ∀ (a b : List S25), lsum (a ++ b) = lsum a + lsum b
  | [], b => by show lsum b = 0 + lsum b; omega
  | c :: cs, b => by
    show ctot c + lsum (cs ++ b) = ctot c + lsum cs + lsum b
    rw [lsum_app cs b]; omega
theorem ins_perm (x : S44) : ∀ l : List S44, (ins hk x l).Perm (x :: l)
  | [] => List.Perm.refl _
  | y :: ys => by
    show (if hk y < hk x then y :: ins hk x ys else x :: y :: ys).Perm (x :: y :: ys)
    split
    · exact (List.Perm.cons y (ins_perm x ys)).trans (List.Perm.swap x y ys)
    · exact List.Perm.refl _
theorem del_sub (id : Int) : ∀ l : List S44, (del hk id l).Sublist l
  | [] => List.Sublist.refl _
  | y :: ys => by
    show (if hk y = id then ys else y :: del hk id ys).Sublist (y :: ys)
    split
    · exact List.sublist_cons_self y ys
    · exact List.Sublist.cons_cons y (del_sub id ys)
/-- What the channel's place in a row tells. -/
theorem srt_mid {a b : List S25} {c d : S25} (h : Srt lk (a ++ c :: b)) (e : d.f0 = c.f0) : Srt lk (a ++ d :: b) := by
  unfold Srt at h ⊢
  rw [List.pairwise_append, List.pairwise_cons] at h ⊢
  obtain ⟨h1, ⟨h2, h3⟩, h4⟩ := h
  refine ⟨h1, ⟨fun x hx => ?_, h3⟩, fun x hx y hy => ?_⟩
  · have := h2 x hx; show d.f0 < x.f0; rw [e]; exact this
  · rcases List.mem_cons.1 hy with rfl | hy
    · have := h4 x hx c (by simp); show x.f0 < y.f0; rw [e]; exact this
    · exact h4 x hx y (by simp [hy])
/-- A channel changed, where all stays as much, and its holds' numbers stay apart. -/
theorem lok_mid {a b : List S25} {c d : S25} (h : LOK (a ++ c :: b)) (e0 : d.f0 = c.f0) (hd : cok d = true) (ht : ctot d = ctot c) (hn : (lids a ++ (d.f5.map hk ++ lids b)).Nodup) : LOK (a ++ d :: b) := by
  obtain ⟨h1, h2, h3, h4, h5⟩ := h
  refine ⟨by simpa using h1, fun x hx => ?_, srt_mid h3 e0, ?_, ?_⟩
  · rcases List.mem_append.1 hx with hx | hx
    · exact h2 x (by simp [hx])
    · rcases List.mem_cons.1 hx with rfl | hx
      · exact hd
      · exact h2 x (by simp [hx])
  · rw [lsum_app] at h4 ⊢
    have e1 : lsum (c :: b) = ctot c + lsum b := rfl
    have e2 : lsum (d :: b) = ctot d + lsum b := rfl
    omega
  · rw [lids_app]; exact hn
theorem nodup_mid_sub {a b : List S25} {c : S25} {xs : List Int} (h : (lids (a ++ c :: b)).Nodup) (hs : xs.Sublist (c.f5.map hk)) : (lids a ++ (xs ++ lids b)).Nodup := by
  rw [lids_app] at h
  exact h.sublist (List.Sublist.append (List.Sublist.refl _) (List.Sublist.append hs (List.Sublist.refl _)))
theorem nodup_mid_ins {a b : List S25} {c : S25} {x : S44} (h : (lids (a ++ c :: b)).Nodup) (hx : x.f0 ∉ lids (a ++ c :: b)) : (lids a ++ ((ins hk x c.f5).map hk ++ lids b)).Nodup := by
  rw [lids_app] at h hx
  have e : lids (c :: b) = c.f5.map hk ++ lids b := rfl
  rw [e] at h hx
  have p : (lids a ++ ((ins hk x c.f5).map hk ++ lids b)).Perm (x.f0 :: (lids a ++ (c.f5.map hk ++ lids b))) := by
    have p1 : ((ins hk x c.f5).map hk ++ lids b).Perm (x.f0 :: (c.f5.map hk ++ lids b)) := (ins_perm x c.f5).map hk |>.append_right (lids b)
    exact (List.Perm.append_left (lids a) p1).trans List.perm_middle
  exact p.nodup_iff.2 (List.nodup_cons.2 ⟨hx, h⟩)
theorem lidx_mem {h : Int} {c : S25} : ∀ {l : List S25}, (lids l).Nodup → c ∈ l → h ∈ c.f5.map hk → ∃ j, lidx h l = some j ∧ l.getD j z25 = c
  | y :: ys, hn, hc, hh => by
    obtain ⟨n1, n2, n3⟩ := List.nodup_append.1 (show (y.f5.map hk ++ lids ys).Nodup from hn)
    unfold lidx
    by_cases q : (look hk h y.f5).isSome = true
    · rw [if_pos q]
      rcases List.mem_cons.1 hc with rfl | hc
      · exact ⟨0, rfl, rfl⟩
      · exact absurd rfl (n3 h (look_iff.1 q) h (mem_lids.2 ⟨c, hc, hh⟩))
    · rw [if_neg q]
      rcases List.mem_cons.1 hc with rfl | hc
      · exact absurd (look_iff.2 hh) q
      · obtain ⟨j, j1, j2⟩ := lidx_mem n2 hc hh
        exact ⟨j + 1, by rw [j1]; rfl, j2⟩
theorem lwhere_of {l : List S25} {h : Int} {c : S25} (hg : ∀ c ∈ l, CB c) (ok : lok l = true) (hc : c ∈ l) (hh : h ∈ c.f5.map hk) : lwhere l h = (c.f0, 0) := by
  obtain ⟨_, _, _, _, h5⟩ := (lok_iff hg).1 ok
  obtain ⟨j, j1, j2⟩ := lidx_mem h5 hc hh
  unfold lwhere
  rw [if_pos ok, j1, ← j2]
theorem lwhere_no {l : List S25} {h : Int} (ok : lok l = true) (hh : h ∉ lids l) : lwhere l h = (0, 5) := by
  unfold lwhere
  rw [if_pos ok, lidx_none.2 hh]
theorem lwhere_err {l : List S25} {h : Int} (ok : lok l = true) (hw : (lwhere l h).2 ≠ 0) : h ∉ lids l := by
  intro hh
  cases e : lidx h l with
  | none => exact lidx_none.1 e hh
  | some j => unfold lwhere at hw; rw [if_pos ok, e] at hw; exact hw rfl
theorem lwhere_mem {l : List S25} {h : Int} (hw : (lwhere l h).2 = 0) : lok l = true ∧ ∃ j, lidx h l = some j := by
  unfold lwhere at hw
  by_cases ok : lok l = true
  · rw [if_pos ok] at hw
    cases e : lidx h l with
    | none => rw [e] at hw; cases hw
    | some j => exact ⟨ok, j, rfl⟩
  · rw [if_neg ok] at hw; cases hw
theorem lb_mid {a b : List S25} {c d : S25} (h : LB (a ++ c :: b)) (hd : LB [d]) : LB (a ++ d :: b) := fun x hx => by
  rcases List.mem_append.1 hx with hx | hx
  · exact h x (by simp [hx])
  · rcases List.mem_cons.1 hx with rfl | hx
    · exact hd x (by simp)
    · exact h x (by simp [hx])
theorem lb_mem {l : List S25} {c : S25} (h : LB l) (hc : c ∈ l) : LB [c] := fun x hx => by
  have : x = c := by simpa using hx
  rw [this]; exact h c hc
/-- What a change of one of many leaves. -/
def lchange (l : List S25) (id : Int) (hw : S25 → S25 × Int) : List S25 × Int := if lok l = true then (match look lk id l with | none => ([], 5) | some c => if (hw c).2 = 0 then (upd lk id (fun _ => (hw c).1) l, 0) else ([], (hw c).2)) else ([], 1)
end Go.Proofs.Ytcfbcoinbecdfaa.B
