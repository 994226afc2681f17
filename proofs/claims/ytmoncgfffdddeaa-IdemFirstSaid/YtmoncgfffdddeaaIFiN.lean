/- Plain laws of the package idem: whether keys may be, what is kept, where one is, what is told, what is put in. -/
import Derived.Test.YtmoncgfffdddeaaIFiT
import Derived.Test.YtmoncgfffdddeaaQIFirstx3
import Derived.Test.YtmoncgfffdddeaaQIFirstx4
set_option linter.unusedVariables false
namespace Go.Proofs.Ytmoncgfffdddeaa.B
open Go.RowKit Go.Proofs.Ytmoncgfffdddeaa.P Go.Proofs.YtmoncgfffdddeaaW.PrintWords
abbrev nk (x : S26) : Int := x.f0
/-- Whether a key's texts are short enough. -/
def ngood (x : S26) : Bool := decide (mx (x.f1.length : Int) (x.f2.length : Int) ≤ 4096)
theorem ngood_iff {x : S26} : ngood x = true ↔ x.f1.length ≤ 4096 ∧ x.f2.length ≤ 4096 := by
  unfold ngood mx
  rw [decide_eq_true_eq]
  split <;> constructor <;> intro h <;> omega
theorem nshort_eq (x : S26) : idem_short.f x.f0 x.f1 x.f2 x.f3 = some (ngood x) := rfl
theorem ncmp_eq (a b : Int) : cmp_Compare_uint64.f a b = some (if a < b then -1 else if a > b then 1 else 0) := by
  unfold cmp_Compare_uint64.f cmp_isNaN_uint64.f
  simp only [Option.bind_some, bne_self_eq_false, if_neg (show ¬ (false = true) by decide)]
  split
  · rfl
  · split <;> rfl
theorem norder_eq (a : Int) (b c : List Int) (d h : Int) : idem_order.f a b c d h = some (if a < h then -1 else if a > h then 1 else 0) := by
  unfold idem_order.f
  rw [ncmp_eq]; rfl
theorem rd26 (l : List S26) (n : Nat) : rd_T26 l (n : Int) = l.getD n z26 := by unfold rd_T26; rw [Int.toNat_natCast]
theorem drop_rd26 {xs ys : List S26} {i : Nat} {y : S26} (h : xs.drop i = y :: ys) : rd_T26 xs (i : Int) = y := by rw [rd26]; exact drop_get z26 h
/-- Whether keys may be. -/
def nok (l : List S26) : Bool := decide (l.length ≤ 128) && chk nk ngood none l
theorem nok_iff {l : List S26} : nok l = true ↔ l.length ≤ 128 ∧ Srt nk l ∧ ∀ x ∈ l, ngood x = true := by
  unfold nok
  rw [Bool.and_eq_true, decide_eq_true_eq, chk_none]
theorem ncheck_loop (l : List S26) (hl : l.length ≤ 128) : ∀ (ys : List S26) (i : Nat) (p : Option Int), l.drop i = ys → (i = 0 → p = none) → (0 < i → p = some (l.getD (i - 1) z26).f0) →
    Ev (fun k => idem_Check.l0 k l l (l.length : Int) (i : Int)) (if chk nk ngood p ys then 0 else 1)
  | [], i, p, h, h0, h1 => by
    have hi := drop_nil h
    refine Ev.step (f := fun _ => some 0) (fun k => by rw [idem_Check.l0, if_neg (by omega)]) (ev_some ?_)
    simp [chk]
  | y :: ys, i, p, h, h0, h1 => by
    have hi := drop_lt h
    have ih := ncheck_loop l hl ys (i + 1) (some y.f0) (drop_next h) (fun e => by omega) (fun _ => by rw [Nat.add_sub_cancel, drop_get z26 h])
    by_cases hi0 : i = 0
    · have hp := h0 hi0
      subst hp
      refine Ev.step (f := fun k => if ngood y = true then idem_Check.l0 k l l (l.length : Int) ((i + 1 : Nat) : Int) else some 1) (fun k => ?_) ?_
      · rw [idem_Check.l0, if_pos (by omega), if_pos (by omega), if_pos (by omega), drop_rd26 h, nshort_eq, next_i hi (by omega), if_neg (by omega)]
        simp only [Option.bind_some]
      · rw [show chk nk ngood none (y :: ys) = (true && (ngood y && chk nk ngood (some y.f0) ys)) from rfl, Bool.true_and]
        by_cases g : ngood y = true
        · rw [g, Bool.true_and]; exact ev_pos rfl ih
        · refine ev_neg g (ev_some ?_)
          rw [Bool.not_eq_true] at g
          rw [g]; rfl
    · have hp := h1 (by omega)
      subst hp
      have hw : wrap64 ((i : Int) - 1) = ((i - 1 : Nat) : Int) := by rw [w64 (by omega) (by omega)]; omega
      refine Ev.step (f := fun k => if ngood y = true then (if (if (l.getD (i - 1) z26).f0 < y.f0 then (-1 : Int) else if (l.getD (i - 1) z26).f0 > y.f0 then 1 else 0) ≥ 0 then some 1 else idem_Check.l0 k l l (l.length : Int) ((i + 1 : Nat) : Int)) else some 1) (fun k => ?_) ?_
      · rw [idem_Check.l0, if_pos (by omega), if_pos (by omega), if_pos (by omega), drop_rd26 h, nshort_eq, if_pos (by omega), hw, if_pos (by omega), if_pos (by omega), norder_eq, rd26, next_i hi (by omega)]
        simp only [Option.bind_some]
      · rw [show chk nk ngood (some (l.getD (i - 1) z26).f0) (y :: ys) = (decide ((l.getD (i - 1) z26).f0 < y.f0) && (ngood y && chk nk ngood (some y.f0) ys)) from rfl]
        by_cases g : ngood y = true
        · refine ev_pos g ?_
          rw [g, Bool.true_and]
          by_cases c : (l.getD (i - 1) z26).f0 < y.f0
          · rw [if_pos c, decide_eq_true c, Bool.true_and]
            exact ev_neg (by omega) ih
          · rw [if_neg c, decide_eq_false c, Bool.false_and]
            exact ev_pos (by split <;> omega) (ev_some rfl)
        · refine ev_neg g (ev_some ?_)
          rw [Bool.not_eq_true] at g
          rw [g, Bool.false_and, Bool.and_false]; rfl
theorem ncheck_ev (l : List S26) : Ev (fun k => idem_Check.f k l) (if nok l then 0 else 1) := by
  unfold idem_Check.f nok
  by_cases h : (l.length : Int) > 128
  · refine ev_pos h (ev_some ?_)
    rw [decide_eq_false (by omega)]; rfl
  · refine ev_neg h ?_
    rw [decide_eq_true (by omega : l.length ≤ 128), Bool.true_and]
    exact ncheck_loop l (by omega) l 0 none rfl (fun _ => rfl) (fun h => by omega)
theorem nsearch_ev (l : List S26) (h : Int) (hs : Srt nk l) (hl : l.length ≤ 128) : Ev (fun k => slices_BinarySearchFunc_uint64_at_idem_order.f k l h) ((pos nk h l : Int), (look nk h l).isSome) := by
  unfold slices_BinarySearchFunc_uint64_at_idem_order.f
  refine search_ev (z := z26) hs (by omega) (fun k i j => slices_BinarySearchFunc_uint64_at_idem_order.l0 k l h (l.length : Int) i j) ?_ ?_ ?_
  · intro k i j m hij hj hm
    have e1 : wrap64 ((IntKind.u64.wrap (wrap64 ((i : Int) + (j : Int)))) / 2) = (m : Int) := by
      rw [w64 (n := (i : Int) + j) (by omega) (by omega), u64w (by omega) (by omega), w64 (by omega) (by omega)]
      omega
    have hml : m < l.length := by omega
    show slices_BinarySearchFunc_uint64_at_idem_order.l0 (k + 1) l h (l.length : Int) (i : Int) (j : Int) = _
    rw [slices_BinarySearchFunc_uint64_at_idem_order.l0, if_pos (by omega), e1, if_pos (by omega), if_pos (by omega), norder_eq, rd26]
    simp only [Option.bind_some]
    by_cases c : (l.getD m z26).f0 < h
    · rw [if_pos c, if_pos (by omega), if_pos c, w64 (by omega) (by omega)]; rfl
    · rw [if_neg c, if_neg (by split <;> omega), if_neg c]
  · intro k i hi
    show slices_BinarySearchFunc_uint64_at_idem_order.l0 (k + 1) l h (l.length : Int) (i : Int) (i : Int) = _
    rw [slices_BinarySearchFunc_uint64_at_idem_order.l0, if_neg (by omega), if_pos (by omega), if_pos (by omega), if_pos (by omega), norder_eq, rd26]
    simp only [Option.bind_some]
    congr 2
    by_cases c1 : (l.getD i z26).f0 < h
    · rw [if_pos c1, decide_eq_false (by show ¬ (l.getD i z26).f0 = h; omega)]; rfl
    · by_cases c2 : (l.getD i z26).f0 > h
      · rw [if_neg c1, if_pos c2, decide_eq_false (by show ¬ (l.getD i z26).f0 = h; omega)]; rfl
      · rw [if_neg c1, if_neg c2, decide_eq_true (by show (l.getD i z26).f0 = h; omega)]; rfl
  · intro k
    show slices_BinarySearchFunc_uint64_at_idem_order.l0 (k + 1) l h (l.length : Int) (l.length : Int) (l.length : Int) = _
    rw [slices_BinarySearchFunc_uint64_at_idem_order.l0, if_neg (by omega), if_neg (by omega)]
/-- What is kept at a tick. -/
def keep (t : Int) (l : List S26) : List S26 := l.filter (fun x => decide (t ≤ x.f3))
theorem mem_keep {t : Int} {l : List S26} {x : S26} : x ∈ keep t l ↔ x ∈ l ∧ t ≤ x.f3 := by unfold keep; rw [List.mem_filter, decide_eq_true_eq]
theorem nok_keep {l : List S26} (h : nok l = true) (t : Int) : nok (keep t l) = true := by
  obtain ⟨h1, h2, h3⟩ := nok_iff.1 h
  exact nok_iff.2 ⟨Nat.le_trans (List.length_filter_le _ _) h1, srt_filter h2, fun x hx => h3 x (mem_keep.1 hx).1⟩
theorem keep_keep {t t2 : Int} (h : t ≤ t2) (l : List S26) : keep t2 (keep t l) = keep t2 l := by
  unfold keep
  rw [List.filter_filter]
  congr 1
  funext x
  by_cases c : t2 ≤ x.f3
  · rw [decide_eq_true c, decide_eq_true (by omega : t ≤ x.f3)]; rfl
  · rw [decide_eq_false c]; rfl
theorem look_keep {l : List S26} (hs : Srt nk l) (t h : Int) : look nk h (keep t l) = (look nk h l).filter (fun x => decide (t ≤ x.f3)) := look_filter _ h hs
def nsweep (l : List S26) (t : Int) : List S26 × Int := if nok l then (keep t l, 0) else ([], 1)
theorem nsweep_ev (l : List S26) (t : Int) : Ev (fun k => idem_Sweep.f k l t) (nsweep l t) := by
  unfold idem_Sweep.f nsweep
  refine Ev.bind (ncheck_ev l) ?_
  by_cases c : nok l = true
  · obtain ⟨h1, h2, h3⟩ := nok_iff.1 c
    rw [if_pos c, if_pos c]
    refine ev_pos rfl (ev_pos ⟨by omega, fun x hx => ?_⟩ (ev_some rfl))
    have := ngood_iff.1 (h3 x hx)
    omega
  · rw [if_neg c, if_neg c]
    exact ev_neg (by decide) (ev_some rfl)
def nfind (l : List S26) (h t : Int) : List S26 × Int × Bool × Int := if nok l then (keep t l, (pos nk h (keep t l) : Int), (look nk h (keep t l)).isSome, 0) else ([], 0, false, 1)
theorem nfind_ev (l : List S26) (h t : Int) : Ev (fun k => idem_find.f k l h t) (nfind l h t) := by
  unfold idem_find.f nfind
  refine Ev.bind (nsweep_ev l t) ?_
  unfold nsweep
  by_cases c : nok l = true
  · obtain ⟨h1, h2, h3⟩ := nok_iff.1 (nok_keep c t)
    rw [if_pos c, if_pos c]
    exact ev_pos rfl (Ev.bind (nsearch_ev (keep t l) h h2 h1) (ev_some rfl))
  · rw [if_neg c, if_neg c]
    exact ev_neg (by decide) (ev_some rfl)
/-- Whether texts are the same. -/
def sb (a b : List Int) : Bool := (strOfNums a).toList == (strOfNums b).toList
theorem sb_refl (a : List Int) : sb a a = true := by unfold sb; rw [beq_self_eq_true]
theorem sb_symm (a b : List Int) : sb a b = sb b a := by unfold sb; rw [Bool.eq_iff_iff, beq_iff_eq, beq_iff_eq]; exact eq_comm
theorem same_eq (a b : List Int) : damsonref01_SameBytes.f a b = some (sb a b) := rfl
theorem bytes_eq (a b : List Int) : bytes_Equal.f a b = some (sb a b) := rfl
def nlook (l : List S26) (h : Int) (p : List Int) (t : Int) : List Int × Int := if nok l then (match look nk h (keep t l) with | none => ([], 5) | some x => if sb x.f1 p then (x.f2, 0) else ([], 12)) else ([], 1)
theorem nlook_ev (l : List S26) (h : Int) (p : List Int) (t : Int) : Ev (fun k => idem_Look.f k l h p t) (nlook l h p t) := by
  unfold idem_Look.f nlook
  refine Ev.bind (nfind_ev l h t) ?_
  unfold nfind
  by_cases c : nok l = true
  · obtain ⟨h1, h2, h3⟩ := nok_iff.1 (nok_keep c t)
    rw [if_pos c, if_pos c]
    refine ev_pos rfl ?_
    cases hk : look nk h (keep t l) with
    | none => exact ev_neg (by simp) (ev_some rfl)
    | some x =>
      have := look_at h (z := z26) h2 hk
      refine ev_pos rfl (ev_pos (by show (0 : Int) ≤ (pos nk h (keep t l) : Int); omega) (ev_pos (by show (pos nk h (keep t l) : Int) < ((keep t l).length : Int); omega) ?_))
      simp only [rd26, this.2, bytes_eq, Option.bind_some]
      exact ev_ite (fun _ => ev_some rfl) (fun _ => ev_some rfl)
  · rw [if_neg c, if_neg c]
    exact ev_neg (by decide) (ev_some rfl)
def nput (l : List S26) (x : S26) (t : Int) : List S26 × Int := if nok l && ngood x then (if (look nk x.f0 (keep t l)).isSome then ([], 6) else if (keep t l).length = 128 then ([], 7) else (ins nk x (keep t l), 0)) else ([], 1)
theorem nput_ev (l : List S26) (x : S26) (t : Int) : Ev (fun k => idem_Put.f k l x.f0 x.f1 x.f2 x.f3 t) (nput l x t) := by
  unfold idem_Put.f nput
  refine Ev.bind (nfind_ev l x.f0 t) ?_
  unfold nfind
  by_cases c : nok l = true
  · obtain ⟨h1, h2, h3⟩ := nok_iff.1 (nok_keep c t)
    rw [if_pos c, c, Bool.true_and]
    refine ev_pos rfl ?_
    by_cases g : ngood x = true
    · rw [if_pos g]
      refine ev_pos (by unfold ngood at g; exact of_decide_eq_true g) (ev_ite (fun _ => ev_some rfl) (fun _ => ev_ite (fun _ => ev_some rfl) (fun hl => ?_)))
      have hp := pos_le (key := nk) x.f0 (keep t l)
      have e2 : slices_Insert_Key.f (keep t l) (pos nk x.f0 (keep t l) : Int) [⟨x.f0, x.f1, x.f2, x.f3⟩] = some (ins nk x (keep t l)) := by
        unfold slices_Insert_Key.f
        rw [if_pos ⟨by omega, by omega, rfl, by omega⟩, Int.toNat_natCast]
        exact congrArg some (ins_eq (key := nk) x (keep t l))
      simp only [e2, Option.bind_some]
      exact Ev.now _
    · rw [if_neg g]
      exact ev_neg (by intro h; exact g (by unfold ngood; exact decide_eq_true h)) (ev_some rfl)
  · rw [if_neg c]
    rw [Bool.not_eq_true] at c
    rw [c, Bool.false_and, if_neg (show ¬ (false = true) by decide)]
    exact ev_neg (show ¬ ((1 : Int) = 0) by decide) (ev_some rfl)
theorem live14 : Ev (fun k => damsonlaw14_live.f k) true := Ev.of damsonlaw14_live.mono (k := 30) (by decide +kernel)
/-- One of two ways, whichever. -/
theorem ex_if {c : Prop} [Decidable c] {f g : Nat → Option Bool} {P : Bool → Prop} (h1 : ∃ b, Ev f b ∧ P b) (h2 : ∃ b, Ev g b ∧ P b) : ∃ b, Ev (fun n => if c then f n else g n) b ∧ P b := by
  by_cases h : c
  · obtain ⟨b, e, p⟩ := h1; exact ⟨b, ev_pos h e, p⟩
  · obtain ⟨b, e, p⟩ := h2; exact ⟨b, ev_neg h e, p⟩
theorem ex_false {P : Bool → Prop} (h : P false) : ∃ b, Ev (fun _ => some false) b ∧ P b := ⟨false, Ev.now _, h⟩
theorem few_loop (l : List S26) (hl : l.length ≤ 9223372036854775807) : ∀ (ys : List S26) (i : Nat), l.drop i = ys → ∃ b, Ev (fun k => damsonref14_Few.l0 k l l (l.length : Int) (i : Int)) b ∧ (b = true → l.length ≤ 130)
  | [], i, h => by
    have hi := drop_nil h
    have : ∃ b, Ev (fun _ => (if (l.length : Int) ≤ 20 then (some true) else (if (l.length : Int) ≥ 128 then (some (decide ((l.length : Int) ≤ 130))) else (some false)))) b ∧ (b = true → l.length ≤ 130) := by
      by_cases c : (l.length : Int) ≤ 20
      · exact ⟨true, ev_pos c (Ev.now _), fun _ => by omega⟩
      · by_cases c2 : (l.length : Int) ≥ 128
        · exact ⟨_, ev_neg c (ev_pos c2 (Ev.now _)), fun h => by have := of_decide_eq_true h; omega⟩
        · exact ⟨false, ev_neg c (ev_neg c2 (Ev.now _)), fun h => by cases h⟩
    obtain ⟨b, e, p⟩ := this
    exact ⟨b, Ev.step (fun k => by rw [damsonref14_Few.l0, if_neg (by omega)]) e, p⟩
  | y :: ys, i, h => by
    have hi := drop_lt h
    have ih := few_loop l hl ys (i + 1) (drop_next h)
    have hw : wrap64 ((i : Int) + 1) = ((i + 1 : Nat) : Int) := by rw [w64 (by omega) (by omega)]; omega
    have fa : ∃ b, Ev (fun _ => some false) b ∧ (b = true → l.length ≤ 130) := ex_false (fun h => by cases h)
    have := ex_if (c := (y.f1.length : Int) > 60) (ex_if (c := (y.f1.length : Int) < 4096) fa (ex_if (c := (y.f1.length : Int) > 4100) fa (ex_if (c := (y.f2.length : Int) > 60) (ex_if (c := (y.f2.length : Int) < 4096) fa (ex_if (c := (y.f2.length : Int) > 4100) fa ih)) (ex_if (c := (y.f2.length : Int) > 4100) fa ih))))
      (ex_if (c := (y.f1.length : Int) > 4100) fa (ex_if (c := (y.f2.length : Int) > 60) (ex_if (c := (y.f2.length : Int) < 4096) fa (ex_if (c := (y.f2.length : Int) > 4100) fa ih)) (ex_if (c := (y.f2.length : Int) > 4100) fa ih)))
    obtain ⟨b, e, p⟩ := this
    exact ⟨b, Ev.step (fun k => by rw [damsonref14_Few.l0, if_pos (by omega), if_pos (by omega), if_pos (by omega), drop_rd26 h, hw]) e, p⟩
theorem nfew_ev (l : List S26) (hl : l.length ≤ 9223372036854775807) : ∃ b, Ev (fun k => damsonref14_Few.f k l) b ∧ (b = true → l.length ≤ 130) := few_loop l hl l 0 rfl
theorem short_loop (l : List (List Int)) (hl : l.length ≤ 140737488351232) : ∀ (ys : List (List Int)) (i : Nat), l.drop i = ys → ∃ b, Ev (fun k => damsonlaw14_short.l0 k l (l.length : Int) (i : Int)) b ∧ True
  | [], i, h => by
    have hi := drop_nil h
    exact ⟨true, Ev.step (f := fun _ => some true) (fun k => by rw [damsonlaw14_short.l0, if_neg (by omega)]) (Ev.now _), trivial⟩
  | y :: ys, i, h => by
    have hi := drop_lt h
    have hy : rd_L2 l (i : Int) = y := by unfold rd_L2; rw [Int.toNat_natCast]; exact drop_get [] h
    have ih := short_loop l hl ys (i + 1) (drop_next h)
    have fa : ∃ b, Ev (fun _ => some false) b ∧ True := ex_false trivial
    have := ex_if (c := (y.length : Int) > 60) (ex_if (c := (y.length : Int) ≤ 4096) fa (ex_if (c := (y.length : Int) > 4100) fa ih)) (ex_if (c := (y.length : Int) > 4100) fa ih)
    obtain ⟨b, e, p⟩ := this
    exact ⟨b, Ev.step (fun k => by rw [damsonlaw14_short.l0, if_pos (by omega), if_pos (by omega), if_pos (by omega), hy, next_i hi hl]) e, p⟩
theorem nshorts_ev (l : List (List Int)) (hl : l.length ≤ 140737488351232) : ∃ b, Ev (fun k => damsonlaw14_short.f k l) b := by
  obtain ⟨b, e, _⟩ := short_loop l hl l 0 rfl
  exact ⟨b, e⟩
theorem nok_ins {l : List S26} {x : S26} (h : nok l = true) (hn : look nk x.f0 l = none) (hx : ngood x = true) (hl : l.length < 128) : nok (ins nk x l) = true := by
  obtain ⟨h1, h2, h3⟩ := nok_iff.1 h
  refine nok_iff.2 ⟨by rw [ins_length]; omega, srt_ins h2 hn, fun y hy => ?_⟩
  rcases mem_ins.1 hy with rfl | hy
  · exact hx
  · exact h3 y hy
theorem put_ok {l : List S26} {x : S26} {t : Int} (e : (nput l x t).2 = 0) : nok l = true ∧ ngood x = true ∧ look nk x.f0 (keep t l) = none ∧ (keep t l).length < 128 ∧ nput l x t = (ins nk x (keep t l), 0) ∧ nok (ins nk x (keep t l)) = true := by
  unfold nput at e ⊢
  by_cases c : (nok l && ngood x) = true
  · rw [if_pos c] at e ⊢
    by_cases s : (look nk x.f0 (keep t l)).isSome = true
    · rw [if_pos s] at e; exact absurd e (by decide)
    · rw [if_neg s] at e ⊢
      by_cases f : (keep t l).length = 128
      · rw [if_pos f] at e; exact absurd e (by decide)
      · rw [if_neg f]
        rw [Bool.and_eq_true] at c
        have hlk : look nk x.f0 (keep t l) = none := by cases hk : look nk x.f0 (keep t l) with | none => rfl | some x => rw [hk] at s; exact absurd rfl s
        have hk := nok_keep c.1 t
        have hlen : (keep t l).length < 128 := by have := (nok_iff.1 hk).1; omega
        exact ⟨c.1, c.2, hlk, hlen, rfl, nok_ins hk hlk c.2 hlen⟩
  · rw [if_neg c] at e; exact absurd e (by decide)
theorem put_no {l : List S26} {x : S26} {t : Int} (e : (nput l x t).2 ≠ 0) : (nput l x t).1 = [] := by
  unfold nput at e ⊢
  split
  · split
    · rfl
    · split
      · rfl
      · rename_i h1 h2 h3
        rw [if_pos h1, if_neg h2, if_neg h3] at e
        exact absurd rfl e
  · rfl
end Go.Proofs.Ytmoncgfffdddeaa.B
