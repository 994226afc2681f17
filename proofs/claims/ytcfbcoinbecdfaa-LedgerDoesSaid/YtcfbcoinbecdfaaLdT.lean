/- Plain words of this session: rows that rise by a key: what is found, where, what is put in, changed, taken out. -/
import Derived.Test.YtcfbcoinbecdfaaLdB
set_option linter.unusedVariables false
namespace Go.Proofs.Ytcfbcoinbecdfaa.B
open Go.RowKit Go.Proofs.YtcfbcoinbecdfaaW.PrintWords
section
variable {α : Type} (key : α → Int)
/-- The row rises. -/
def Srt (l : List α) : Prop := l.Pairwise (fun a b => key a < key b)
/-- How many lie ahead of h. -/
def pos (h : Int) : List α → Nat
  | [] => 0
  | y :: ys => if key y < h then pos h ys + 1 else 0
/-- The first of key h. -/
def look (h : Int) : List α → Option α
  | [] => none
  | y :: ys => if key y = h then some y else look h ys
/-- x put in. -/
def ins (x : α) : List α → List α
  | [] => [x]
  | y :: ys => if key y < key x then y :: ins x ys else x :: y :: ys
/-- The first of key h changed. -/
def upd (h : Int) (f : α → α) : List α → List α
  | [] => []
  | y :: ys => if key y = h then f y :: ys else y :: upd h f ys
/-- The first of key h taken out. -/
def del (h : Int) : List α → List α
  | [] => []
  | y :: ys => if key y = h then ys else y :: del h ys
variable {key}
theorem srt_cons {y : α} {ys : List α} : Srt key (y :: ys) ↔ (∀ x ∈ ys, key y < key x) ∧ Srt key ys := List.pairwise_cons
theorem srt_nil : Srt key [] := List.Pairwise.nil
theorem pos_le (h : Int) : ∀ l : List α, pos key h l ≤ l.length
  | [] => Nat.le_refl _
  | y :: ys => by
    have := pos_le h ys
    unfold pos; split <;> simp only [List.length_cons] <;> omega
theorem look_none_of {h : Int} : ∀ {l : List α}, (∀ x ∈ l, key x ≠ h) → look key h l = none
  | [], _ => rfl
  | y :: ys, hl => by
    unfold look
    rw [if_neg (hl y (by simp))]
    exact look_none_of fun x hx => hl x (by simp [hx])
theorem look_none {h : Int} : ∀ {l : List α}, look key h l = none → ∀ x ∈ l, key x ≠ h
  | y :: ys, hl, x, hx => by
    unfold look at hl
    by_cases c : key y = h
    · rw [if_pos c] at hl; cases hl
    · rw [if_neg c] at hl
      rcases List.mem_cons.1 hx with rfl | hx
      · exact c
      · exact look_none hl x hx
theorem look_some {h : Int} {x : α} : ∀ {l : List α}, look key h l = some x → x ∈ l ∧ key x = h
  | y :: ys, hl => by
    unfold look at hl
    by_cases c : key y = h
    · rw [if_pos c] at hl
      have : y = x := by simpa using hl
      subst this
      exact ⟨by simp, c⟩
    · rw [if_neg c] at hl
      have := look_some hl
      exact ⟨by simp [this.1], this.2⟩
theorem look_mem {x : α} : ∀ {l : List α}, Srt key l → x ∈ l → look key (key x) l = some x
  | y :: ys, hs, hx => by
    obtain ⟨h1, h2⟩ := srt_cons.1 hs
    unfold look
    rcases List.mem_cons.1 hx with rfl | hx
    · rw [if_pos rfl]
    · have := h1 x hx
      rw [if_neg (by omega)]
      exact look_mem h2 hx
theorem pos_lt (h : Int) {z : α} : ∀ {l : List α}, Srt key l → ∀ i, i < pos key h l → key (l.getD i z) < h
  | [], _, i, hi => by simp [pos] at hi
  | y :: ys, hs, i, hi => by
    obtain ⟨h1, h2⟩ := srt_cons.1 hs
    unfold pos at hi
    by_cases c : key y < h
    · rw [if_pos c] at hi
      cases i with
      | zero => simpa using c
      | succ i => simpa using pos_lt h h2 i (by omega)
    · rw [if_neg c] at hi; omega
theorem pos_ge (h : Int) {z : α} : ∀ {l : List α}, Srt key l → ∀ i, pos key h l ≤ i → i < l.length → h ≤ key (l.getD i z)
  | y :: ys, hs, i, hi, hl => by
    obtain ⟨h1, h2⟩ := srt_cons.1 hs
    unfold pos at hi
    by_cases c : key y < h
    · rw [if_pos c] at hi
      cases i with
      | zero => omega
      | succ i => simpa using pos_ge h h2 i (by omega) (by simpa using hl)
    · cases i with
      | zero => simp; omega
      | succ i =>
        have hl' : i < ys.length := by simpa using hl
        have := h1 ys[i] (List.getElem_mem hl')
        simp [List.getD, List.getElem?_eq_getElem hl']
        omega
theorem look_at (h : Int) {z x : α} : ∀ {l : List α}, Srt key l → look key h l = some x → pos key h l < l.length ∧ l.getD (pos key h l) z = x
  | y :: ys, hs, hl => by
    obtain ⟨h1, h2⟩ := srt_cons.1 hs
    unfold look at hl
    by_cases c : key y = h
    · rw [if_pos c] at hl
      unfold pos
      rw [if_neg (by omega)]
      exact ⟨by simp, by simpa using hl⟩
    · rw [if_neg c] at hl
      have hx := look_some hl
      have := h1 x hx.1
      have ih := look_at h (z := z) h2 hl
      unfold pos
      rw [if_pos (by omega)]
      exact ⟨by simp only [List.length_cons]; omega, by simpa using ih.2⟩
theorem look_no (h : Int) {z : α} {l : List α} (hs : Srt key l) (hl : look key h l = none) (hp : pos key h l < l.length) : key (l.getD (pos key h l) z) ≠ h := by
  apply look_none hl
  rw [List.getD_eq_getElem?_getD, List.getElem?_eq_getElem hp]
  exact List.getElem_mem hp
theorem ins_eq (x : α) : ∀ l : List α, l.take (pos key (key x) l) ++ [x] ++ l.drop (pos key (key x) l) = ins key x l
  | [] => rfl
  | y :: ys => by
    unfold pos ins
    by_cases c : key y < key x
    · rw [if_pos c, if_pos c, ← ins_eq x ys]; simp
    · rw [if_neg c, if_neg c]; simp
theorem ins_length (x : α) : ∀ l : List α, (ins key x l).length = l.length + 1
  | [] => rfl
  | y :: ys => by unfold ins; split <;> simp [ins_length x ys]
theorem mem_ins {x y : α} : ∀ {l : List α}, y ∈ ins key x l ↔ y = x ∨ y ∈ l
  | [] => by simp [ins]
  | z :: zs => by
    unfold ins
    split
    · simp only [List.mem_cons, mem_ins (l := zs)]
      constructor
      · rintro (h | h | h)
        · exact .inr (.inl h)
        · exact .inl h
        · exact .inr (.inr h)
      · rintro (h | h | h)
        · exact .inr (.inl h)
        · exact .inl h
        · exact .inr (.inr h)
    · simp only [List.mem_cons]
theorem srt_ins {x : α} : ∀ {l : List α}, Srt key l → look key (key x) l = none → Srt key (ins key x l)
  | [], _, _ => by unfold ins; exact List.pairwise_singleton _ _
  | y :: ys, hs, hl => by
    obtain ⟨h1, h2⟩ := srt_cons.1 hs
    have hn := look_none hl
    have hy := hn y (by simp)
    unfold look at hl
    rw [if_neg hy] at hl
    unfold ins
    by_cases c : key y < key x
    · rw [if_pos c]
      refine srt_cons.2 ⟨fun w hw => ?_, srt_ins h2 hl⟩
      rcases mem_ins.1 hw with rfl | hw
      · exact c
      · exact h1 w hw
    · rw [if_neg c]
      refine srt_cons.2 ⟨fun w hw => ?_, hs⟩
      rcases List.mem_cons.1 hw with rfl | hw
      · omega
      · have := h1 w hw; omega
theorem set_eq (h : Int) {z x : α} (f : α → α) : ∀ {l : List α}, Srt key l → look key h l = some x → l.set (pos key h l) (f x) = upd key h f l
  | y :: ys, hs, hl => by
    obtain ⟨h1, h2⟩ := srt_cons.1 hs
    unfold look at hl
    by_cases c : key y = h
    · rw [if_pos c] at hl
      have : y = x := by simpa using hl
      subst this
      unfold pos upd
      rw [if_neg (by omega), if_pos c]; rfl
    · rw [if_neg c] at hl
      have hx := look_some hl
      have := h1 x hx.1
      unfold pos upd
      rw [if_pos (by omega), if_neg c, ← set_eq h (z := z) f h2 hl]; rfl
theorem del_eq (h : Int) {x : α} : ∀ {l : List α}, Srt key l → look key h l = some x → l.take (pos key h l) ++ l.drop (pos key h l + 1) = del key h l
  | y :: ys, hs, hl => by
    obtain ⟨h1, h2⟩ := srt_cons.1 hs
    unfold look at hl
    by_cases c : key y = h
    · unfold pos del
      rw [if_neg (by omega), if_pos c]; rfl
    · rw [if_neg c] at hl
      have hx := look_some hl
      have := h1 x hx.1
      unfold pos del
      rw [if_pos (by omega), if_neg c, ← del_eq h h2 hl]; rfl
theorem del_length {h : Int} {x : α} : ∀ {l : List α}, look key h l = some x → (del key h l).length + 1 = l.length
  | y :: ys, hl => by
    unfold look at hl
    unfold del
    by_cases c : key y = h
    · rw [if_pos c]; simp
    · rw [if_neg c] at hl ⊢
      simp [del_length hl]
variable (key)
/-- Whether a row rises from a key on, and each of it is good. -/
def chk (good : α → Bool) : Option Int → List α → Bool
  | _, [] => true
  | p, x :: xs => (match p with | none => true | some q => decide (q < key x)) && (good x && chk good (some (key x)) xs)
variable {key}
theorem chk_some {good : α → Bool} : ∀ {l : List α} {q : Int}, chk key good (some q) l = true ↔ (∀ x ∈ l, q < key x) ∧ Srt key l ∧ ∀ x ∈ l, good x = true
  | [], q => by simp [chk, srt_nil]
  | x :: xs, q => by
    unfold chk
    simp only [Bool.and_eq_true, decide_eq_true_eq, chk_some (l := xs), srt_cons, List.mem_cons, forall_eq_or_imp]
    constructor
    · rintro ⟨h1, h2, h3, h4, h5⟩
      exact ⟨⟨h1, fun y hy => by have := h3 y hy; omega⟩, ⟨h3, h4⟩, h2, h5⟩
    · rintro ⟨⟨h1, _⟩, ⟨h3, h4⟩, h2, h5⟩
      exact ⟨h1, h2, h3, h4, h5⟩
theorem chk_none {good : α → Bool} {l : List α} : chk key good none l = true ↔ Srt key l ∧ ∀ x ∈ l, good x = true := by
  cases l with
  | nil => simp [chk, srt_nil]
  | cons x xs =>
    unfold chk
    simp only [Bool.and_eq_true, chk_some, srt_cons, List.mem_cons, forall_eq_or_imp, true_and]
    constructor
    · rintro ⟨h1, h2, h3, h4⟩; exact ⟨⟨h2, h3⟩, h1, h4⟩
    · rintro ⟨⟨h2, h3⟩, h1, h4⟩; exact ⟨h1, h2, h3, h4⟩
/-- A search by halves. -/
theorem search_ev {l : List α} {h : Int} {z : α} (hs : Srt key l) (hl : l.length ≤ 4611686018427387904) (g : Nat → Int → Int → Option (Int × Bool))
    (hstep : ∀ (k i j m : Nat), i < j → j ≤ l.length → m = (i + j) / 2 → g (k + 1) (i : Int) (j : Int) = if key (l.getD m z) < h then g k ((m + 1 : Nat) : Int) (j : Int) else g k (i : Int) (m : Int))
    (hend : ∀ (k i : Nat), i < l.length → g (k + 1) (i : Int) (i : Int) = some ((i : Int), decide (key (l.getD i z) = h)))
    (hout : ∀ (k : Nat), g (k + 1) (l.length : Int) (l.length : Int) = some ((l.length : Int), false)) :
    Ev (fun k => g k 0 (l.length : Int)) ((pos key h l : Int), (look key h l).isSome) := by
  have go : ∀ (d i j : Nat), j - i ≤ d → i ≤ pos key h l → pos key h l ≤ j → j ≤ l.length → Ev (fun k => g k (i : Int) (j : Int)) ((pos key h l : Int), (look key h l).isSome) := by
    intro d
    induction d with
    | zero =>
      intro i j hd h1 h2 h3
      have e : j = i := by omega
      have e2 : pos key h l = i := by omega
      subst e
      rw [e2]
      by_cases hj : j < l.length
      · refine Ev.step (f := fun _ => some ((j : Int), decide (key (l.getD j z) = h))) (fun k => hend k j hj) (ev_some ?_)
        congr 1
        cases hk : look key h l with
        | none =>
          have := look_no h (z := z) hs hk (by omega)
          rw [e2] at this
          rw [decide_eq_false this]; rfl
        | some x =>
          have := look_at h (z := z) hs hk
          rw [e2] at this
          rw [this.2]
          simp [(look_some hk).2]
      · have e3 : j = l.length := by omega
        subst e3
        refine Ev.step (f := fun _ => some ((l.length : Int), false)) (fun k => hout k) (ev_some ?_)
        congr 1
        cases hk : look key h l with
        | none => rfl
        | some x =>
          have := look_at h (z := z) hs hk
          omega
    | succ d ih =>
      intro i j hd h1 h2 h3
      by_cases hij : i < j
      · by_cases hc : key (l.getD ((i + j) / 2) z) < h
        · have hp : (i + j) / 2 < pos key h l := by
            refine Nat.lt_of_not_le fun hle => ?_
            have := pos_ge h (z := z) hs ((i + j) / 2) hle (by omega)
            omega
          refine Ev.step (f := fun k => g k (((i + j) / 2 + 1 : Nat) : Int) (j : Int)) (fun k => by show g (k + 1) (i : Int) (j : Int) = _; rw [hstep k i j _ hij h3 rfl, if_pos hc]) ?_
          exact ih ((i + j) / 2 + 1) j (by omega) (by omega) h2 h3
        · have hp : pos key h l ≤ (i + j) / 2 := by
            refine Nat.le_of_not_lt fun hlt => ?_
            have := pos_lt h (z := z) hs ((i + j) / 2) hlt
            omega
          refine Ev.step (f := fun k => g k (i : Int) (((i + j) / 2 : Nat) : Int)) (fun k => by show g (k + 1) (i : Int) (j : Int) = _; rw [hstep k i j _ hij h3 rfl, if_neg hc]) ?_
          exact ih i ((i + j) / 2) (by omega) h1 hp (by omega)
      · exact ih i j (by omega) h1 h2 h3
  exact go l.length 0 l.length (by omega) (by omega) (pos_le h l) (Nat.le_refl _)
/-- A search by halves in any row: it ends. -/
theorem search_tot {l : List α} {h : Int} {z : α} (hl : l.length ≤ 4611686018427387904) (g : Nat → Int → Int → Option (Int × Bool))
    (hstep : ∀ (k i j m : Nat), i < j → j ≤ l.length → m = (i + j) / 2 → g (k + 1) (i : Int) (j : Int) = if key (l.getD m z) < h then g k ((m + 1 : Nat) : Int) (j : Int) else g k (i : Int) (m : Int))
    (hend : ∀ (k i : Nat), i < l.length → g (k + 1) (i : Int) (i : Int) = some ((i : Int), decide (key (l.getD i z) = h)))
    (hout : ∀ (k : Nat), g (k + 1) (l.length : Int) (l.length : Int) = some ((l.length : Int), false)) :
    ∃ r, Ev (fun k => g k 0 (l.length : Int)) r := by
  have go : ∀ (d i j : Nat), j - i ≤ d → i ≤ j → j ≤ l.length → ∃ r, Ev (fun k => g k (i : Int) (j : Int)) r := by
    intro d
    induction d with
    | zero =>
      intro i j hd h1 h3
      have e : j = i := by omega
      subst e
      by_cases hj : j < l.length
      · exact ⟨_, Ev.step (f := fun _ => some ((j : Int), decide (key (l.getD j z) = h))) (fun k => hend k j hj) (Ev.now _)⟩
      · have e3 : j = l.length := by omega
        subst e3
        exact ⟨_, Ev.step (f := fun _ => some ((l.length : Int), false)) (fun k => hout k) (Ev.now _)⟩
    | succ d ih =>
      intro i j hd h1 h3
      by_cases hij : i < j
      · by_cases hc : key (l.getD ((i + j) / 2) z) < h
        · obtain ⟨r, hr⟩ := ih ((i + j) / 2 + 1) j (by omega) (by omega) h3
          exact ⟨r, Ev.step (f := fun k => g k (((i + j) / 2 + 1 : Nat) : Int) (j : Int)) (fun k => by show g (k + 1) (i : Int) (j : Int) = _; rw [hstep k i j _ hij h3 rfl, if_pos hc]) hr⟩
        · obtain ⟨r, hr⟩ := ih i ((i + j) / 2) (by omega) (by omega) (by omega)
          exact ⟨r, Ev.step (f := fun k => g k (i : Int) (((i + j) / 2 : Nat) : Int)) (fun k => by show g (k + 1) (i : Int) (j : Int) = _; rw [hstep k i j _ hij h3 rfl, if_neg hc]) hr⟩
      · exact ih i j (by omega) h1 h3
  exact go l.length 0 l.length (by omega) (by omega) (Nat.le_refl _)
end
end Go.Proofs.Ytcfbcoinbecdfaa.B
