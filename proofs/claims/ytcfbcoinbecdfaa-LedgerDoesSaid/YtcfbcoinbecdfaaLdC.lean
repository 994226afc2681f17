/- Plain laws of the package channel: what is held, and all; where a hold is. -/
import Derived.Test.YtcfbcoinbecdfaaLdA
import Derived.Test.YtcfbcoinbecdfaaLdK
import Derived.Test.YtcfbcoinbecdfaaQLdoesx3
import Derived.Test.YtcfbcoinbecdfaaQLdoesx2
import Derived.Test.YtcfbcoinbecdfaaQLdoesx6
set_option linter.unusedVariables false
namespace Go.Proofs.Ytcfbcoinbecdfaa.B
open Go.RowKit Go.Proofs.Ytcfbcoinbecdfaa.P Go.Proofs.YtcfbcoinbecdfaaW.PrintWords
abbrev hk (x : S44) : Int := x.f0
def hgood (x : S44) : Bool := decide (0 < x.f1)
/-- What holds hold together. -/
def tot : List S44 → Int
  | [] => 0
  | y :: ys => y.f1 + tot ys
theorem tot_nonneg : ∀ {l : List S44}, (∀ y ∈ l, 0 ≤ y.f1) → 0 ≤ tot l
  | [], _ => Int.le_refl 0
  | y :: ys, h => by
    have h1 := h y List.mem_cons_self
    have h2 := tot_nonneg (l := ys) (fun z hz => h z (List.mem_cons_of_mem _ hz))
    unfold tot; omega
theorem corder_eq (a b h : Int) : channel_order.f a b h = some (if a < h then -1 else if a > h then 1 else 0) := by
  unfold channel_order.f
  rw [cmp_eq]; rfl
theorem rd44 (l : List S44) (n : Nat) : rd_T44 l (n : Int) = l.getD n z44 := by unfold rd_T44; rw [Int.toNat_natCast]
theorem drop_rd44 {xs ys : List S44} {i : Nat} {y : S44} (h : xs.drop i = y :: ys) : rd_T44 xs (i : Int) = y := by rw [rd44]; exact drop_get z44 h
/-- What is told of what is held, and all, once the holds are told. -/
def csfin (loc rem t : Int) : Int × Int × Int := if loc ≤ 4611686018427387904 ∧ rem ≤ 4611686018427387904 ∧ t + loc + rem ≤ 4611686018427387904 then (t, t + loc + rem, 0) else (0, 0, 1)
theorem madd3 {a b c : Int} (ha : 0 ≤ a) (ha1 : a ≤ 4611686018427387904) (hb : 0 ≤ b) (hc : 0 ≤ c) :
    (b ≤ 4611686018427387904 ∧ c ≤ 4611686018427387904 ∧ a + b + c ≤ 4611686018427387904 → madd [a, b, c] = (a + b + c, 0)) ∧ (¬ (b ≤ 4611686018427387904 ∧ c ≤ 4611686018427387904 ∧ a + b + c ≤ 4611686018427387904) → (madd [a, b, c]).2 ≠ 0) := by
  unfold madd
  rw [mchk_cons, mchk_cons, mchk_one, if_pos ha1]
  constructor
  · rintro ⟨h1, h2, h3⟩
    rw [if_pos h1, if_pos h2, if_pos rfl]
    unfold maddFrom; rw [if_neg (by omega)]
    unfold maddFrom; rw [if_neg (by omega)]
    unfold maddFrom; rw [if_neg (by omega)]
    unfold maddFrom; rw [Int.zero_add]
  · intro h
    by_cases h1 : b ≤ 4611686018427387904
    · by_cases h2 : c ≤ 4611686018427387904
      · rw [if_pos h1, if_pos h2, if_pos rfl]
        unfold maddFrom; rw [if_neg (by omega)]
        unfold maddFrom
        by_cases h3 : 0 + a + b > 4611686018427387904
        · rw [if_pos h3]; decide
        · rw [if_neg h3]
          unfold maddFrom; rw [if_pos (by omega)]; decide
      · rw [if_pos h1, if_neg h2, if_neg (by decide)]; decide
    · rw [if_neg h1, if_neg (by decide)]; decide
/-- What the holds from here on leave to tell. -/
def csrow (most loc rem s : Int) (p : Option Int) (ys : List S44) : Int × Int × Int := if chk hk hgood p ys && decide (s + tot ys ≤ most) then csfin loc rem (s + tot ys) else (0, 0, 1)
theorem sums_j2 (c : S25) (hm0 : c.f4 ≤ 4611686018427387904) (s : Int) (hs0 : 0 ≤ s) (hs : s ≤ c.f4) (i : Nat) (y : S44) (ys : List S44) (hy : 0 ≤ y.f1) (hys : ∀ z ∈ ys, 0 ≤ z.f1) (w : Bool) (hi : i < c.f5.length) (hl : c.f5.length ≤ 64) (hw : w = false → 0 < y.f1)
    (ih : ∀ s', 0 ≤ s' → s' ≤ c.f4 → Ev (fun k => channel_sums.l0 k s' c.f5 (c.f5.length : Int) ((i + 1 : Nat) : Int) c.f0 c.f1 c.f2 c.f3 c.f4 c.f5 c.f6) (csrow c.f4 c.f1 c.f2 s' (some y.f0) ys)) :
    Ev (fun k => channel_sums.j2 k s c.f5 (c.f5.length : Int) (i : Int) w c.f0 c.f1 c.f2 c.f3 c.f4 c.f5 c.f6 y.f0 y.f1) (if w = true then (0, 0, 1) else csrow c.f4 c.f1 c.f2 (s + y.f1) (some y.f0) ys) := by
  refine Ev.step (fun k => by rw [channel_sums.j2]) ?_
  refine ev_ite (fun _ => ev_some rfl) (fun hw0 => ?_)
  have hn := hw (by simpa using hw0)
  have ht := tot_nonneg hys
  refine Ev.bind (add2_ev s y.f1 hs0 hy) ?_
  rw [next_i hi (by omega)]
  unfold madd2
  by_cases h1 : y.f1 ≤ 4611686018427387904
  · rw [if_pos ⟨by omega, h1⟩]
    by_cases h2 : s + y.f1 > 4611686018427387904
    · rw [if_pos h2]
      refine ev_neg (by decide) (ev_some ?_)
      unfold csrow
      rw [decide_eq_false (by omega), Bool.and_false]; rfl
    · rw [if_neg h2]
      refine ev_pos rfl ?_
      by_cases h3 : s + y.f1 > c.f4
      · refine ev_pos h3 (ev_some ?_)
        unfold csrow
        rw [decide_eq_false (by omega), Bool.and_false]; rfl
      · exact ev_neg h3 (ih (s + y.f1) (by omega) (by omega))
  · rw [if_neg (fun h => h1 h.2)]
    refine ev_neg (by decide) (ev_some ?_)
    unfold csrow
    rw [decide_eq_false (by omega), Bool.and_false]; rfl
theorem sums_loop (c : S25) (hl : c.f5.length ≤ 64) (hm0 : c.f4 ≤ 4611686018427387904) (h1 : 0 ≤ c.f1) (h2 : 0 ≤ c.f2) (hn : ∀ y ∈ c.f5, 0 ≤ y.f1) : ∀ (ys : List S44) (i : Nat) (p : Option Int) (s : Int), c.f5.drop i = ys → (i = 0 → p = none) → (0 < i → p = some (c.f5.getD (i - 1) z44).f0) → 0 ≤ s → s ≤ c.f4 →
    Ev (fun k => channel_sums.l0 k s c.f5 (c.f5.length : Int) (i : Int) c.f0 c.f1 c.f2 c.f3 c.f4 c.f5 c.f6) (csrow c.f4 c.f1 c.f2 s p ys)
  | [], i, p, s, h, _, _, hs0, hs => by
    have hi := drop_nil h
    refine Ev.step (fun k => by rw [channel_sums.l0]) (ev_neg (by omega) (Ev.bind (add_ev [s, c.f1, c.f2] (by simp) (by simp; omega)) ?_))
    unfold csrow tot
    rw [show (chk hk hgood p [] : Bool) = true by cases p <;> rfl, Bool.true_and, Int.add_zero, decide_eq_true hs, if_pos rfl]
    obtain ⟨q1, q2⟩ := madd3 hs0 (by omega) h1 h2
    unfold csfin
    by_cases q : c.f1 ≤ 4611686018427387904 ∧ c.f2 ≤ 4611686018427387904 ∧ s + c.f1 + c.f2 ≤ 4611686018427387904
    · rw [q1 q, if_pos q]; exact ev_pos rfl (ev_some rfl)
    · rw [if_neg q]; exact ev_neg (q2 q) (ev_some rfl)
  | y :: ys, i, p, s, h, h0, hp, hs0, hs => by
    have hi := drop_lt h
    have hy := drop_get z44 h
    have hyn := hn y (drop_mem h)
    have hys : ∀ z ∈ ys, 0 ≤ z.f1 := fun z hz => hn z (by
      have : z ∈ c.f5.drop i := by rw [h]; exact List.mem_cons_of_mem _ hz
      exact List.mem_of_mem_drop this)
    have ih := fun s' a b => sums_loop c hl hm0 h1 h2 hn ys (i + 1) (some y.f0) s' (drop_next h) (fun e => by omega) (fun _ => by rw [Nat.add_sub_cancel, hy]) a b
    refine Ev.step (fun k => by rw [channel_sums.l0]) (ev_pos (by omega) (ev_pos (by omega) (ev_pos (by omega) ?_)))
    rw [drop_rd44 h]
    by_cases z0 : y.f1 = 0
    · refine ev_pos z0 (ev_eq (sums_j2 c hm0 s hs0 hs i y ys hyn hys true hi hl (fun e => by simp at e) ih) ?_)
      rw [if_pos rfl]
      unfold csrow
      have : chk hk hgood p (y :: ys) = false := by
        have hg : hgood y = false := decide_eq_false (by omega)
        unfold chk; rw [hg, Bool.false_and, Bool.and_false]
      rw [this, Bool.false_and]; rfl
    · refine ev_neg z0 ?_
      have hg : hgood y = true := decide_eq_true (by omega)
      have e2 : s + tot (y :: ys) = s + y.f1 + tot ys := by show s + (y.f1 + tot ys) = _; omega
      by_cases i0 : i = 0
      · have hp0 := h0 i0
        subst hp0
        refine ev_neg (by omega) (ev_eq (sums_j2 c hm0 s hs0 hs i y ys hyn hys false hi hl (fun _ => by omega) ih) ?_)
        rw [if_neg (by decide)]
        unfold csrow
        rw [e2, show chk hk hgood none (y :: ys) = (true && (hgood y && chk hk hgood (some y.f0) ys)) from rfl, hg, Bool.true_and, Bool.true_and]
      · have hp1 := hp (by omega)
        subst hp1
        have hw : wrap64 ((i : Int) - 1) = ((i - 1 : Nat) : Int) := by rw [w64 (by omega) (by omega)]; omega
        rw [hw]
        refine ev_pos (by omega) (ev_pos (by omega) (ev_pos (by omega) ?_))
        rw [corder_eq, rd44]
        simp only [Option.bind_some]
        refine ev_eq (sums_j2 c hm0 s hs0 hs i y ys hyn hys _ hi hl (fun _ => by omega) ih) ?_
        unfold csrow
        rw [e2, show chk hk hgood (some (c.f5.getD (i - 1) z44).f0) (y :: ys) = (decide ((c.f5.getD (i - 1) z44).f0 < y.f0) && (hgood y && chk hk hgood (some y.f0) ys)) from rfl, hg, Bool.true_and]
        by_cases q : (c.f5.getD (i - 1) z44).f0 < y.f0
        · rw [if_pos q, if_neg (by decide), decide_eq_true q, Bool.true_and]
        · rw [if_neg q, decide_eq_false q, Bool.false_and, Bool.false_and, if_pos (decide_eq_true (by split <;> omega))]; rfl
/-- Whether a channel may be. -/
def cok (c : S25) : Bool := decide (c.f3 ≤ 4611686018427387904 ∧ c.f4 ≤ 4611686018427387904 ∧ c.f5.length ≤ 64 ∧ (c.f6 = false → c.f5.length = 0)) && (chk hk hgood none c.f5 && decide (tot c.f5 ≤ c.f4 ∧ c.f1 ≤ 4611686018427387904 ∧ c.f2 ≤ 4611686018427387904 ∧ tot c.f5 + c.f1 + c.f2 ≤ 4611686018427387904))
theorem cok_iff {c : S25} : cok c = true ↔ (c.f3 ≤ 4611686018427387904 ∧ c.f4 ≤ 4611686018427387904 ∧ c.f5.length ≤ 64 ∧ (c.f6 = false → c.f5.length = 0)) ∧ (Srt hk c.f5 ∧ ∀ x ∈ c.f5, hgood x = true) ∧ tot c.f5 ≤ c.f4 ∧ c.f1 ≤ 4611686018427387904 ∧ c.f2 ≤ 4611686018427387904 ∧ tot c.f5 + c.f1 + c.f2 ≤ 4611686018427387904 := by
  unfold cok
  rw [Bool.and_eq_true, Bool.and_eq_true, decide_eq_true_eq, decide_eq_true_eq, chk_none]
def csums (c : S25) : Int × Int × Int := if cok c then (tot c.f5, tot c.f5 + c.f1 + c.f2, 0) else (0, 0, 1)
theorem cbounds {c : S25} (g : G25 c) : 0 ≤ c.f0 ∧ 0 ≤ c.f1 ∧ 0 ≤ c.f2 ∧ 0 ≤ c.f3 ∧ 0 ≤ c.f4 ∧ (∀ y ∈ c.f5, 0 ≤ y.f1) := by
  obtain ⟨a0, a1, a2, a3, a4, ⟨_, a5⟩, _⟩ := g
  exact ⟨(wf_u64 a0).1, (wf_u64 a1).1, (wf_u64 a2).1, (wf_u64 a3).1, (wf_u64 a4).1, fun y hy => (wf_u64 (a5 y hy).2).1⟩
theorem sums_ev (c : S25) (h1 : 0 ≤ c.f1) (h2 : 0 ≤ c.f2) (h4 : 0 ≤ c.f4) (hn : ∀ y ∈ c.f5, 0 ≤ y.f1) : Ev (fun k => channel_sums.f k c.f0 c.f1 c.f2 c.f3 c.f4 c.f5 c.f6) (csums c) := by
  unfold channel_sums.f csums
  refine Ev.bind (check_ev [c.f3, c.f4] (by simp)) ?_
  rw [mchk_cons, mchk_one]
  have bad : ¬ cok c = true → Ev (fun k => channel_sums.j0 k 0 true c.f0 c.f1 c.f2 c.f3 c.f4 c.f5 c.f6) (if cok c = true then (tot c.f5, tot c.f5 + c.f1 + c.f2, 0) else (0, 0, 1)) := by
    intro h
    rw [if_neg h]
    exact Ev.step (fun k => by rw [channel_sums.j0]) (ev_pos rfl (ev_some rfl))
  by_cases q1 : c.f3 ≤ 4611686018427387904
  · by_cases q2 : c.f4 ≤ 4611686018427387904
    · rw [if_pos q1, if_pos q2]
      refine ev_pos rfl (ev_if (fun q3 => bad (fun h => ?_)) (fun q3 => ?_))
      · have := (cok_iff.1 h).1.2.2.1; omega
      · have core : ∀ w, (w = true ↔ (c.f6 = false ∧ 0 < c.f5.length)) → Ev (fun k => channel_sums.j0 k 0 w c.f0 c.f1 c.f2 c.f3 c.f4 c.f5 c.f6) (if cok c = true then (tot c.f5, tot c.f5 + c.f1 + c.f2, 0) else (0, 0, 1)) := by
          intro w hw
          by_cases w1 : w = true
          · rw [w1]
            refine bad (fun h => ?_)
            have a := (cok_iff.1 h).1.2.2.2 (hw.1 w1).1
            have b := (hw.1 w1).2
            omega
          · refine Ev.step (fun k => by rw [channel_sums.j0]) (ev_neg w1 ?_)
            refine ev_eq (sums_loop c (by omega) q2 h1 h2 hn c.f5 0 none 0 rfl (fun _ => rfl) (fun h => by omega) (Int.le_refl 0) h4) ?_
            unfold csrow csfin cok
            rw [Int.zero_add]
            have d1 : decide (c.f3 ≤ 4611686018427387904 ∧ c.f4 ≤ 4611686018427387904 ∧ c.f5.length ≤ 64 ∧ (c.f6 = false → c.f5.length = 0)) = true := decide_eq_true ⟨q1, q2, by omega, fun e => by
              rcases Nat.eq_zero_or_pos c.f5.length with z | z
              · exact z
              · exact absurd (hw.2 ⟨e, z⟩) w1⟩
            rw [d1, Bool.true_and]
            by_cases k1 : chk hk hgood none c.f5 = true
            · rw [k1, Bool.true_and, Bool.true_and]
              by_cases k2 : tot c.f5 ≤ c.f4
              · rw [decide_eq_true k2, if_pos rfl]
                by_cases k3 : c.f1 ≤ 4611686018427387904 ∧ c.f2 ≤ 4611686018427387904 ∧ tot c.f5 + c.f1 + c.f2 ≤ 4611686018427387904
                · rw [if_pos k3, decide_eq_true ⟨k2, k3⟩, if_pos rfl]
                · rw [if_neg k3, decide_eq_false (fun h => k3 h.2)]; rfl
              · rw [decide_eq_false k2, decide_eq_false (fun h => k2 h.1)]; rfl
            · rw [Bool.not_eq_true] at k1
              rw [k1, Bool.false_and, Bool.false_and]; rfl
        refine ev_if (fun o => core false ⟨fun h => by simp at h, fun h => by rw [o] at h; simp at h⟩) (fun o => core _ ?_)
        rw [Bool.not_eq_true] at o
        rw [o, decide_eq_true_eq]
        constructor
        · intro h; exact ⟨rfl, by omega⟩
        · intro h; omega
    · rw [if_pos q1, if_neg q2]
      exact ev_neg (by decide) (bad (fun h => q2 (cok_iff.1 h).1.2.1))
  · rw [if_neg q1]
    exact ev_neg (by decide) (bad (fun h => q1 (cok_iff.1 h).1.1))
theorem csearch_hyps (l : List S44) (h : Int) (hl : l.length ≤ 1073741824) :
    (∀ (k i j m : Nat), i < j → j ≤ l.length → m = (i + j) / 2 → slices_BinarySearchFunc_uint64_at_channel_order.l0 (k + 1) l h (l.length : Int) (i : Int) (j : Int) = if hk (l.getD m z44) < h then slices_BinarySearchFunc_uint64_at_channel_order.l0 k l h (l.length : Int) ((m + 1 : Nat) : Int) (j : Int) else slices_BinarySearchFunc_uint64_at_channel_order.l0 k l h (l.length : Int) (i : Int) (m : Int)) ∧
    (∀ (k i : Nat), i < l.length → slices_BinarySearchFunc_uint64_at_channel_order.l0 (k + 1) l h (l.length : Int) (i : Int) (i : Int) = some ((i : Int), decide (hk (l.getD i z44) = h))) ∧
    (∀ (k : Nat), slices_BinarySearchFunc_uint64_at_channel_order.l0 (k + 1) l h (l.length : Int) (l.length : Int) (l.length : Int) = some ((l.length : Int), false)) := by
  refine ⟨?_, ?_, ?_⟩
  · intro k i j m hij hj hm
    have e1 := mid_eq hm (by omega) hij
    have hml : m < l.length := by omega
    rw [slices_BinarySearchFunc_uint64_at_channel_order.l0, if_pos (by omega), e1, if_pos (by omega), if_pos (by omega), corder_eq, rd44]
    simp only [Option.bind_some]
    by_cases c : (l.getD m z44).f0 < h
    · rw [if_pos c, if_pos (by omega), if_pos c, w64 (by omega) (by omega)]; rfl
    · rw [if_neg c, if_neg (by split <;> omega), if_neg c]
  · intro k i hi
    rw [slices_BinarySearchFunc_uint64_at_channel_order.l0, if_neg (by omega), if_pos (by omega), if_pos (by omega), if_pos (by omega), corder_eq, rd44]
    simp only [Option.bind_some]
    congr 2
    by_cases c1 : (l.getD i z44).f0 < h
    · rw [if_pos c1, decide_eq_false (by show ¬ (l.getD i z44).f0 = h; omega)]; rfl
    · by_cases c2 : (l.getD i z44).f0 > h
      · rw [if_neg c1, if_pos c2, decide_eq_false (by show ¬ (l.getD i z44).f0 = h; omega)]; rfl
      · rw [if_neg c1, if_neg c2, decide_eq_true (by show (l.getD i z44).f0 = h; omega)]; rfl
  · intro k
    rw [slices_BinarySearchFunc_uint64_at_channel_order.l0, if_neg (by omega), if_neg (by omega)]
theorem csearch_ev (l : List S44) (h : Int) (hs : Srt hk l) (hl : l.length ≤ 1073741824) : Ev (fun k => slices_BinarySearchFunc_uint64_at_channel_order.f k l h) ((pos hk h l : Int), (look hk h l).isSome) := by
  unfold slices_BinarySearchFunc_uint64_at_channel_order.f
  obtain ⟨a, b, c⟩ := csearch_hyps l h hl
  exact search_ev (z := z44) hs (by omega) (fun k i j => slices_BinarySearchFunc_uint64_at_channel_order.l0 k l h (l.length : Int) i j) a b c
theorem csearch_tot (l : List S44) (h : Int) (hl : l.length ≤ 1073741824) : ∃ r, Ev (fun k => slices_BinarySearchFunc_uint64_at_channel_order.f k l h) r := by
  unfold slices_BinarySearchFunc_uint64_at_channel_order.f
  obtain ⟨a, b, c⟩ := csearch_hyps l h hl
  exact search_tot (key := hk) (h := h) (z := z44) (by omega) (fun k i j => slices_BinarySearchFunc_uint64_at_channel_order.l0 k l h (l.length : Int) i j) a b c
end Go.Proofs.Ytcfbcoinbecdfaa.B
