/- Words of this session's own print: what an argument of any kind reads as, when it comes in by a row. -/
import Derived.Test.YtcfbcoinbecdfaaI
import Derived.Deep.Slices
import Derived.Test.YtcfbcoinbecdfaaWLast
import Derived.Tactics
import Derived.KernelRfl
set_option linter.unusedVariables false
namespace Go.Proofs.YtcfbcoinbecdfaaW.PrintWords
open Go.RowKit
/-- What comes in as a value of type t is of this kind, and good. -/
structure Opens {α : Type} (P : Program) (d : Kd α) (t : TypeId) (G : α → Prop) : Prop where
  out : ∀ {H : Type} {enc : TypeId × Value → H} {w : World} {spare : Nat → Bool} {held : Bool} {fuel : Nat} {cs : List Value} {x : DataW H × List MemPlace}, DataW.trod enc P w 0 spare held fuel t cs = some x → ∃ a : α, d.K w a cs ∧ G a
theorem opens_int {P : Program} {t : TypeId} {k : IntKind} (ht : P.underlying t = some (.int k)) : Opens P (Kd.int k) t (fun n => (Lit.int k n).wf = true) := by
  refine ⟨fun {H enc w spare held fuel cs x} h => ?_⟩
  obtain ⟨n, rfl, _, hw⟩ := DataW.trod_int ht h
  exact ⟨n, rfl, hw⟩
theorem opens_bool {P : Program} {t : TypeId} (ht : P.underlying t = some .bool) : Opens P Kd.bool t (fun _ => True) := by
  refine ⟨fun {H enc w spare held fuel cs x} h => ?_⟩
  obtain ⟨b, rfl, _⟩ := DataW.trod_bool ht h
  exact ⟨b, rfl, trivial⟩
theorem opens_string {P : Program} {t : TypeId} (ht : P.underlying t = some .string) : Opens P Kd.string t (fun s => s.size ≤ 9223372036854775807) := by
  refine ⟨fun {H enc w spare held fuel cs x} h => ?_⟩
  obtain ⟨s, rfl, _, hs⟩ := DataW.trod_string ht h
  exact ⟨s, rfl, by simpa [maxLen] using hs⟩
theorem opens_slice {α : Type} {P : Program} {d : Kd α} {t e : TypeId} {G : α → Prop} (ht : P.underlying t = some (.slice e)) (hc : P.cellsOf e = d.sz) (ho : Opens P d e G) :
    Opens P (Kd.slice e d) t (fun xs => xs.length ≤ 9223372036854775807 ∧ ∀ x ∈ xs, G x) := by
  refine ⟨fun {H enc w spare held fuel cs x} h => ?_⟩
  rcases Deep.open_slice ht h with ⟨rfl, _⟩ | ⟨a, len, cap, m, n, D, Pl, rfl, _, hl, hm, hmm, _, hx⟩
  · exact ⟨[], ⟨none, 0, rfl, Nat.le_refl _, rfl, by simp, fun h0 => absurd h0 (Nat.lt_irrefl 0)⟩, by simp, by simp⟩
  · have hlm : len ≤ m := by rw [hmm]; split <;> omega
    have each : ∀ i, i < len → ∃ y : α, ∃ c, c.length = d.sz ∧ d.K w y c ∧ G y ∧ ∀ j u, c[j]? = some u → w.cell? (a.add (i * d.sz + j)) = some u := by
      intro i hi
      obtain ⟨cs', h1, h2⟩ := hx i (by omega)
      obtain ⟨y, hy, hg⟩ := ho.out h2
      rw [hc] at h1
      obtain ⟨_, hlen, hcell⟩ := World.cells?_some h1
      refine ⟨y, cs', hlen, hy, hg, fun j u hj => ?_⟩
      have hjl : j < cs'.length := (List.getElem?_eq_some_iff.1 hj).1
      have := hcell j (by omega)
      rw [Deep.add_add] at this
      rw [this]; exact hj
    have hchoose : ∀ n, n ≤ len → ∃ xs : List α, xs.length = n ∧ (∀ x ∈ xs, G x) ∧ ∀ i p, xs[i]? = some p → ∃ c, c.length = d.sz ∧ d.K w p c ∧ ∀ j u, c[j]? = some u → w.cell? (a.add (i * d.sz + j)) = some u := by
      intro n
      induction n with
      | zero => intro _; exact ⟨[], rfl, by simp, fun i p hp => by simp at hp⟩
      | succ n ih =>
        intro hn
        obtain ⟨xs, h1, h2, h3⟩ := ih (by omega)
        obtain ⟨y, c, q1, q2, q3, q4⟩ := each n (by omega)
        refine ⟨xs ++ [y], by simp [h1], ?_, ?_⟩
        · intro x hx
          rcases List.mem_append.1 hx with hx | hx
          · exact h2 x hx
          · rw [List.mem_singleton.1 hx]; exact q3
        · intro i p hp
          rcases Nat.lt_or_ge i xs.length with hi | hi
          · rw [List.getElem?_append_left hi] at hp; exact h3 i p hp
          · have hi2 : i = n := by
              have := (List.getElem?_eq_some_iff.1 hp).1
              simp at this
              omega
            subst hi2
            rw [List.getElem?_append_right hi, h1] at hp
            have : y = p := by simpa using hp
            subst this
            exact ⟨c, q1, q2, q4⟩
    obtain ⟨xs, h1, h2, h3⟩ := hchoose len (Nat.le_refl _)
    have h63 : len ≤ 9223372036854775807 := by unfold maxLen at hm; omega
    refine ⟨xs, ⟨some a, cap, by rw [h1], by omega, ?_⟩, by omega, h2⟩
    refine ⟨rfl, by omega, fun _ => ⟨a, rfl, fun j p hj => ?_⟩⟩
    obtain ⟨c, q1, q2, q3⟩ := h3 j p hj
    exact ⟨c, q1, q2, q3⟩
/-- The fields of a struct from a place on. -/
structure OpensF {α : Type} (P : Program) (d : Kd α) (fs : List Field) (off : Nat) (G : α → Prop) : Prop where
  out : ∀ {H : Type} {enc : TypeId × Value → H} {w : World} {spare : Nat → Bool} {held : Bool} {fuel : Nat} {cs : List Value}, cs.length = off + d.sz →
    (∀ f ∈ fs, ∃ x : DataW H × List MemPlace, DataW.trod enc P w 0 spare held fuel f.type ((cs.drop f.offset).take (P.cellsOf f.type)) = some x) → ∃ a : α, d.K w a (cs.drop off) ∧ G a
theorem opensF_one {α : Type} {P : Program} {d : Kd α} {f : Field} {off : Nat} {G : α → Prop} (ho : f.offset = off) (hc : P.cellsOf f.type = d.sz) (h : Opens P d f.type G) : OpensF P d [f] off G := by
  refine ⟨fun {H enc w spare held fuel cs} hl hf => ?_⟩
  obtain ⟨x, hx⟩ := hf f (by simp)
  obtain ⟨a, ha, hg⟩ := h.out hx
  rw [ho, hc, List.take_of_length_le (by rw [List.length_drop]; omega)] at ha
  exact ⟨a, ha, hg⟩
theorem opensF_cons {α β : Type} {P : Program} {d : Kd α} {d' : Kd β} {f : Field} {fs : List Field} {off : Nat} {G : α → Prop} {G' : β → Prop} (ho : f.offset = off) (hc : P.cellsOf f.type = d.sz) (h : Opens P d f.type G) (h' : OpensF P d' fs (off + d.sz) G') :
    OpensF P (Kd.pair d d') (f :: fs) off (fun x => G x.1 ∧ G' x.2) := by
  refine ⟨fun {H enc w spare held fuel cs} hl hf => ?_⟩
  have hsz : (Kd.pair d d').sz = d.sz + d'.sz := rfl
  obtain ⟨x, hx⟩ := hf f (by simp)
  obtain ⟨a, ha, hg⟩ := h.out hx
  obtain ⟨b, hb, hg'⟩ := h'.out (cs := cs) (by omega) (fun f' hf' => hf f' (by simp [hf']))
  rw [ho, hc] at ha
  exact ⟨(a, b), ⟨_, _, by rw [← List.drop_drop]; exact (List.take_append_drop d.sz (cs.drop off)).symm, ha, hb⟩, hg, hg'⟩
theorem opens_struct {α : Type} {P : Program} {d : Kd α} {t : TypeId} {fs : Array Field} {G : α → Prop} (ht : P.underlying t = some (.struct fs)) (hc : P.cellsOf t = d.sz) (h : OpensF P d fs.toList 0 G) : Opens P d t G := by
  refine ⟨fun {H enc w spare held fuel cs x} hx => ?_⟩
  obtain ⟨xs, n, _, _, hl, hxl, hfs⟩ := DataW.trod_struct ht hx
  obtain ⟨a, ha, hg⟩ := h.out (cs := cs) (enc := enc) (w := w) (spare := spare) (held := held) (fuel := n) (by omega) (fun f hf => by
    obtain ⟨i, hi, e⟩ := List.getElem_of_mem hf
    have hi' : fs[i]? = some f := by rw [← Array.getElem?_toList, List.getElem?_eq_getElem hi, e]
    have := hfs i f hi'
    have hil : i < xs.length := by rw [hxl]; simpa using hi
    rw [List.getElem?_eq_getElem hil] at this
    exact ⟨_, this⟩)
  exact ⟨a, by simpa using ha, hg⟩
theorem opens_iso {α β : Type} {P : Program} {d : Kd α} {t : TypeId} {G : α → Prop} (f : β → α) (g : α → β) (hfg : ∀ a, f (g a) = a) (h : Opens P d t G) : Opens P (Kd.iso d f) t (fun b => G (f b)) := by
  refine ⟨fun {H enc w spare held fuel cs x} hx => ?_⟩
  obtain ⟨a, ha, hg⟩ := h.out hx
  exact ⟨g a, by show d.K w (f (g a)) cs; rw [hfg]; exact ha, by show G (f (g a)); rw [hfg]; exact hg⟩
theorem opens_imp {α : Type} {P : Program} {d : Kd α} {t : TypeId} {G G' : α → Prop} (h : Opens P d t G) (hi : ∀ a, G a → G' a) : Opens P d t G' := by
  refine ⟨fun {H enc w spare held fuel cs x} hx => ?_⟩
  obtain ⟨a, ha, hg⟩ := h.out hx
  exact ⟨a, ha, hi a hg⟩
/-- What it leads to is told by the heap alone. -/
structure Moves {α : Type} (d : Kd α) : Prop where
  out : ∀ {W W' : World}, (∀ k, k < W.heap.size → W'.heap[k]? = W.heap[k]?) → ∀ x c, d.K W x c → d.K W' x c
theorem moves_scalar {α : Type} (enc : α → Value) (h1 : ∀ x, (enc x).oneCell' = true) : Moves (Kd.scalar enc h1) := ⟨fun _ _ _ h => h⟩
theorem moves_pair {α β : Type} {a : Kd α} {b : Kd β} (ha : Moves a) (hb : Moves b) : Moves (Kd.pair a b) := by
  refine ⟨fun {W W'} hW x c h => ?_⟩
  obtain ⟨c0, c1, e, h0, h1⟩ := h
  exact ⟨c0, c1, e, ha.out hW _ _ h0, hb.out hW _ _ h1⟩
theorem moves_iso {α β : Type} {d : Kd α} (f : β → α) (h : Moves d) : Moves (Kd.iso d f) := ⟨fun hW x c hK => h.out hW (f x) c hK⟩
theorem C_moves {α : Type} {d : Kd α} (hd : Moves d) {W W' : World} (hW : ∀ k, k < W.heap.size → W'.heap[k]? = W.heap[k]?) {A : Option Addr} {n : Nat} {xs : List α} (h : d.C W A n xs) : d.C W' A n xs := by
  have hs : W.heap.size ≤ W'.heap.size := by
    rcases Nat.eq_zero_or_pos W.heap.size with h0 | h0
    · omega
    · have e := hW (W.heap.size - 1) (by omega)
      rw [Array.getElem?_eq_getElem (show W.heap.size - 1 < W.heap.size by omega)] at e
      have := (Array.getElem?_eq_some_iff.1 e).1
      omega
  have hb : Below W.heap.size W { W with heap := W'.heap } := ⟨rfl, rfl, rfl, hs, hW⟩
  have h2 : ReadsRow (d.K W') d.sz { W with heap := W'.heap } A n xs := ReadsRow.imp_ h hb (fun x c hK => hd.out hW x c hK)
  exact h2
theorem moves_slice {α : Type} {d : Kd α} (e : Nat) (hd : Moves d) : Moves (Kd.slice e d) := by
  refine ⟨fun {W W'} hW x c h => ?_⟩
  obtain ⟨A, c0, e0, hl, hC⟩ := h
  exact ⟨A, c0, e0, hl, C_moves hd hW hC⟩
/-- What came in and is only read, told as what may be shared. -/
theorem V_all {α : Type} {d : Kd α} (hd : Moves d) {e : Nat} {W : World} {base : Nat} {A : Option Addr} {c : Nat} {xs : List α} (h : d.C W A xs.length xs) (hc : xs.length ≤ c) : Kd.V d e W base (fun _ => True) (.slice A xs.length c) xs :=
  Kd.V_mk hc (fun _ hW => C_moves hd (fun k hk => hW k trivial hk) h)
/-! ### Shorter words for what the print says at length: what held at an elder world holds now (the way from there is shown by the same steps) -/
theorem blkN {w0 w : World} {g : Nat} {o : Obj} (h0 : Aside0 (w0.heap[g]? = some o)) (hW : w0.heap[g]? = some o → w.heap[g]? = some o := by intro h; (with_reducible repeat (first | refine blk_drewN ?_ _ | refine blk_drew ?_ | refine blk_alloc ?_ _)); exact h) : w.heap[g]? = some o := hW h0.out
theorem blkF {w0 w : World} {g : Nat} {t : TypeId} {cs : Array Value} (h0 : Aside0 (w0.heap[g]? = some (.cells cs t (0, 0)))) (hW : w0.heap[g]? = some (.cells cs t (0, 0)) → w.heap[g]? = some (.cells cs t (0, 0)) := by intro h; repeat (first | with_reducible exact h | with_reducible refine blk_drewN ?_ _ | with_reducible refine blk_drew ?_ | with_reducible refine blk_alloc ?_ _ | refine blk_far ?_ (Aside0.out (by assumption)) _)) : w.heap[g]? = some (.cells cs t (0, 0)) := hW h0.out
theorem belN {w w0 w1 : World} (h0 : Aside0 (Below w.heap.size w w0)) (hW : Below w.heap.size w w0 → Below w.heap.size w w1 := by intro h; repeat (first | (with_reducible first | exact h | apply below_alloc | apply pw_below_drewN | apply below_drew1 | refine below_set ?_ (Aside0.out (by assumption))) | exact h)) : Below w.heap.size w w1 := hW h0.out
theorem neN {w0 w : World} {g g' : Nat} {o : Obj} (h0 : Aside0 (w0.heap[g]? = some o)) (hg : g' = w.heap.size) (hW : w0.heap[g]? = some o → w.heap[g]? = some o := by intro h; (with_reducible repeat (first | refine blk_drewN ?_ _ | refine blk_drew ?_ | refine blk_alloc ?_ _)); exact h) : g ≠ g' := by
  rw [hg]; exact Nat.ne_of_lt (blk_lt (hW h0.out))
theorem neN' {w0 w : World} {g g' : Nat} {o : Obj} (h0 : Aside0 (w0.heap[g]? = some o)) (hg : g' = w.heap.size) (hW : w0.heap[g]? = some o → w.heap[g]? = some o := by intro h; (with_reducible repeat (first | refine blk_drewN ?_ _ | refine blk_drew ?_ | refine blk_alloc ?_ _)); exact h) : g' ≠ g := by
  rw [hg]; exact Nat.ne_of_gt (blk_lt (hW h0.out))
theorem neF {w0 w : World} {g g' : Nat} {t : TypeId} {cs : Array Value} (h0 : Aside0 (w0.heap[g]? = some (.cells cs t (0, 0)))) (hg : g' = w.heap.size) (hW : w0.heap[g]? = some (.cells cs t (0, 0)) → w.heap[g]? = some (.cells cs t (0, 0)) := by intro h; repeat (first | with_reducible exact h | with_reducible refine blk_drewN ?_ _ | with_reducible refine blk_drew ?_ | with_reducible refine blk_alloc ?_ _ | refine blk_far ?_ (Aside0.out (by assumption)) _)) : g ≠ g' := by
  rw [hg]; exact Nat.ne_of_lt (blk_lt (hW h0.out))
theorem neF' {w0 w : World} {g g' : Nat} {t : TypeId} {cs : Array Value} (h0 : Aside0 (w0.heap[g]? = some (.cells cs t (0, 0)))) (hg : g' = w.heap.size) (hW : w0.heap[g]? = some (.cells cs t (0, 0)) → w.heap[g]? = some (.cells cs t (0, 0)) := by intro h; repeat (first | with_reducible exact h | with_reducible refine blk_drewN ?_ _ | with_reducible refine blk_drew ?_ | with_reducible refine blk_alloc ?_ _ | refine blk_far ?_ (Aside0.out (by assumption)) _)) : g' ≠ g := by
  rw [hg]; exact Nat.ne_of_gt (blk_lt (hW h0.out))
theorem geN {w w0 W : World} {g' : Nat} (h0 : Aside0 (Below w.heap.size w w0)) (hg : g' = W.heap.size) (hW : Below w.heap.size w w0 → Below w.heap.size w W := by intro h; repeat (first | (with_reducible first | exact h | apply below_alloc | apply pw_below_drewN | apply below_drew1 | refine below_set ?_ (Aside0.out (by assumption))) | exact h)) : w.heap.size ≤ g' := by
  rw [hg]; exact below_size (hW h0.out)
theorem cz1_ {w : World} {g : Nat} {t : TypeId} {a0 : Value} (h : w.heap[g]? = some (.cells #[a0] t (0, 0))) : w.cell? ⟨g, 0, none⟩ = some a0 ∧ w.frozen? ⟨g, 0, none⟩ = false :=
  ⟨(blk_cell h 0).trans rfl, blk_frozen h 0⟩
theorem cz2_ {w : World} {g : Nat} {t : TypeId} {a0 a1 : Value} (h : w.heap[g]? = some (.cells #[a0, a1] t (0, 0))) : w.cell? ⟨g, 0, none⟩ = some a0 ∧ w.cell? ⟨g, 1, none⟩ = some a1 ∧ w.frozen? ⟨g, 0, none⟩ = false ∧ w.frozen? ⟨g, 1, none⟩ = false :=
  ⟨(blk_cell h 0).trans rfl, (blk_cell h 1).trans rfl, blk_frozen h 0, blk_frozen h 1⟩
theorem cz3_ {w : World} {g : Nat} {t : TypeId} {a0 a1 a2 : Value} (h : w.heap[g]? = some (.cells #[a0, a1, a2] t (0, 0))) : w.cell? ⟨g, 0, none⟩ = some a0 ∧ w.cell? ⟨g, 1, none⟩ = some a1 ∧ w.cell? ⟨g, 2, none⟩ = some a2 ∧ w.frozen? ⟨g, 0, none⟩ = false ∧ w.frozen? ⟨g, 1, none⟩ = false ∧ w.frozen? ⟨g, 2, none⟩ = false :=
  ⟨(blk_cell h 0).trans rfl, (blk_cell h 1).trans rfl, (blk_cell h 2).trans rfl, blk_frozen h 0, blk_frozen h 1, blk_frozen h 2⟩
theorem cz4_ {w : World} {g : Nat} {t : TypeId} {a0 a1 a2 a3 : Value} (h : w.heap[g]? = some (.cells #[a0, a1, a2, a3] t (0, 0))) : w.cell? ⟨g, 0, none⟩ = some a0 ∧ w.cell? ⟨g, 1, none⟩ = some a1 ∧ w.cell? ⟨g, 2, none⟩ = some a2 ∧ w.cell? ⟨g, 3, none⟩ = some a3 ∧ w.frozen? ⟨g, 0, none⟩ = false ∧ w.frozen? ⟨g, 1, none⟩ = false ∧ w.frozen? ⟨g, 2, none⟩ = false ∧ w.frozen? ⟨g, 3, none⟩ = false :=
  ⟨(blk_cell h 0).trans rfl, (blk_cell h 1).trans rfl, (blk_cell h 2).trans rfl, (blk_cell h 3).trans rfl, blk_frozen h 0, blk_frozen h 1, blk_frozen h 2, blk_frozen h 3⟩
theorem cz5_ {w : World} {g : Nat} {t : TypeId} {a0 a1 a2 a3 a4 : Value} (h : w.heap[g]? = some (.cells #[a0, a1, a2, a3, a4] t (0, 0))) : w.cell? ⟨g, 0, none⟩ = some a0 ∧ w.cell? ⟨g, 1, none⟩ = some a1 ∧ w.cell? ⟨g, 2, none⟩ = some a2 ∧ w.cell? ⟨g, 3, none⟩ = some a3 ∧ w.cell? ⟨g, 4, none⟩ = some a4 ∧ w.frozen? ⟨g, 0, none⟩ = false ∧ w.frozen? ⟨g, 1, none⟩ = false ∧ w.frozen? ⟨g, 2, none⟩ = false ∧ w.frozen? ⟨g, 3, none⟩ = false ∧ w.frozen? ⟨g, 4, none⟩ = false :=
  ⟨(blk_cell h 0).trans rfl, (blk_cell h 1).trans rfl, (blk_cell h 2).trans rfl, (blk_cell h 3).trans rfl, (blk_cell h 4).trans rfl, blk_frozen h 0, blk_frozen h 1, blk_frozen h 2, blk_frozen h 3, blk_frozen h 4⟩
theorem cz6_ {w : World} {g : Nat} {t : TypeId} {a0 a1 a2 a3 a4 a5 : Value} (h : w.heap[g]? = some (.cells #[a0, a1, a2, a3, a4, a5] t (0, 0))) : w.cell? ⟨g, 0, none⟩ = some a0 ∧ w.cell? ⟨g, 1, none⟩ = some a1 ∧ w.cell? ⟨g, 2, none⟩ = some a2 ∧ w.cell? ⟨g, 3, none⟩ = some a3 ∧ w.cell? ⟨g, 4, none⟩ = some a4 ∧ w.cell? ⟨g, 5, none⟩ = some a5 ∧ w.frozen? ⟨g, 0, none⟩ = false ∧ w.frozen? ⟨g, 1, none⟩ = false ∧ w.frozen? ⟨g, 2, none⟩ = false ∧ w.frozen? ⟨g, 3, none⟩ = false ∧ w.frozen? ⟨g, 4, none⟩ = false ∧ w.frozen? ⟨g, 5, none⟩ = false :=
  ⟨(blk_cell h 0).trans rfl, (blk_cell h 1).trans rfl, (blk_cell h 2).trans rfl, (blk_cell h 3).trans rfl, (blk_cell h 4).trans rfl, (blk_cell h 5).trans rfl, blk_frozen h 0, blk_frozen h 1, blk_frozen h 2, blk_frozen h 3, blk_frozen h 4, blk_frozen h 5⟩
theorem cz7_ {w : World} {g : Nat} {t : TypeId} {a0 a1 a2 a3 a4 a5 a6 : Value} (h : w.heap[g]? = some (.cells #[a0, a1, a2, a3, a4, a5, a6] t (0, 0))) : w.cell? ⟨g, 0, none⟩ = some a0 ∧ w.cell? ⟨g, 1, none⟩ = some a1 ∧ w.cell? ⟨g, 2, none⟩ = some a2 ∧ w.cell? ⟨g, 3, none⟩ = some a3 ∧ w.cell? ⟨g, 4, none⟩ = some a4 ∧ w.cell? ⟨g, 5, none⟩ = some a5 ∧ w.cell? ⟨g, 6, none⟩ = some a6 ∧ w.frozen? ⟨g, 0, none⟩ = false ∧ w.frozen? ⟨g, 1, none⟩ = false ∧ w.frozen? ⟨g, 2, none⟩ = false ∧ w.frozen? ⟨g, 3, none⟩ = false ∧ w.frozen? ⟨g, 4, none⟩ = false ∧ w.frozen? ⟨g, 5, none⟩ = false ∧ w.frozen? ⟨g, 6, none⟩ = false :=
  ⟨(blk_cell h 0).trans rfl, (blk_cell h 1).trans rfl, (blk_cell h 2).trans rfl, (blk_cell h 3).trans rfl, (blk_cell h 4).trans rfl, (blk_cell h 5).trans rfl, (blk_cell h 6).trans rfl, blk_frozen h 0, blk_frozen h 1, blk_frozen h 2, blk_frozen h 3, blk_frozen h 4, blk_frozen h 5, blk_frozen h 6⟩
theorem cz8_ {w : World} {g : Nat} {t : TypeId} {a0 a1 a2 a3 a4 a5 a6 a7 : Value} (h : w.heap[g]? = some (.cells #[a0, a1, a2, a3, a4, a5, a6, a7] t (0, 0))) : w.cell? ⟨g, 0, none⟩ = some a0 ∧ w.cell? ⟨g, 1, none⟩ = some a1 ∧ w.cell? ⟨g, 2, none⟩ = some a2 ∧ w.cell? ⟨g, 3, none⟩ = some a3 ∧ w.cell? ⟨g, 4, none⟩ = some a4 ∧ w.cell? ⟨g, 5, none⟩ = some a5 ∧ w.cell? ⟨g, 6, none⟩ = some a6 ∧ w.cell? ⟨g, 7, none⟩ = some a7 ∧ w.frozen? ⟨g, 0, none⟩ = false ∧ w.frozen? ⟨g, 1, none⟩ = false ∧ w.frozen? ⟨g, 2, none⟩ = false ∧ w.frozen? ⟨g, 3, none⟩ = false ∧ w.frozen? ⟨g, 4, none⟩ = false ∧ w.frozen? ⟨g, 5, none⟩ = false ∧ w.frozen? ⟨g, 6, none⟩ = false ∧ w.frozen? ⟨g, 7, none⟩ = false :=
  ⟨(blk_cell h 0).trans rfl, (blk_cell h 1).trans rfl, (blk_cell h 2).trans rfl, (blk_cell h 3).trans rfl, (blk_cell h 4).trans rfl, (blk_cell h 5).trans rfl, (blk_cell h 6).trans rfl, (blk_cell h 7).trans rfl, blk_frozen h 0, blk_frozen h 1, blk_frozen h 2, blk_frozen h 3, blk_frozen h 4, blk_frozen h 5, blk_frozen h 6, blk_frozen h 7⟩
namespace Kd
section
variable {α : Type} {d : Kd α} {e : Nat} {w0 w : World} {base : Nat} {ok : Nat → Prop} {v : Value} {xs : List α}
theorem RN (h0 : Aside0 (d.R e w0 base ok v xs)) (hW : d.R e w0 base ok v xs → d.R e w base ok v xs := by intro h; (with_reducible repeat (first | apply Kd.R_alloc | apply Kd.R_drewN | apply Kd.R_drew)); exact h) : d.R e w base ok v xs := hW h0.out
theorem VN (h0 : Aside0 (d.V e w0 base ok v xs)) (hW : d.V e w0 base ok v xs → d.V e w base ok v xs := by intro h; (with_reducible repeat (first | apply Kd.V_alloc | apply Kd.V_drewN | apply Kd.V_drew)); exact h) : d.V e w base ok v xs := hW h0.out
theorem NN (h0 : Aside0 (Kd.N d e w0 base ok v xs)) (hW : Kd.N d e w0 base ok v xs → Kd.N d e w base ok v xs := by intro h; (with_reducible repeat (first | apply Kd.N_alloc | apply Kd.N_drewN | apply Kd.N_drew)); exact h) : Kd.N d e w base ok v xs := hW h0.out
theorem CN {A : Option Addr} {n : Nat} (h0 : d.C w0 A n xs) (hW : d.C w0 A n xs → d.C w A n xs := by intro h; repeat (first | exact h | (with_reducible refine Kd.C_alloc ?_ _) | (with_reducible refine Kd.C_drewN ?_ _) | (with_reducible refine Kd.C_drew ?_))) : d.C w A n xs := hW h0
theorem RF {g t : Nat} {cells : Array Value} (h0 : Aside0 (d.R e w0 base ok v xs)) (hb : Aside0 (w0.heap[g]? = some (.cells cells t (0, 0)))) (ht : ∀ q, q ∈ e :: d.E → q ≠ t := by decide)
    (hW : ∀ ok' : Nat → Prop, (∀ k, ok' k → k ≠ g) → d.R e w0 base ok' v xs → d.R e w base ok' v xs := by intro ok' hk' h; (with_reducible repeat (first | apply Kd.R_alloc | apply Kd.R_drewN | apply Kd.R_drew)); repeat (first | with_reducible exact h | refine Kd.R_far ?_ hk' _)) : d.R e w base ok v xs :=
  Kd.R_mono (hW _ (fun _ hk => hk.2) (Kd.R_types h0.out hb.out ht)) (fun _ h => h.1)
end
end Kd
end Go.Proofs.YtcfbcoinbecdfaaW.PrintWords
namespace Go.Proofs.YtcfbcoinbecdfaaW.PrintLast
section
variable {P : Program} {ops : Array Oper} {Q : Exit → Act → World → Prop} {md : Region.Mode} {S : World → Prop} {ds : List Nat}
/-- n bools, the bits of k. -/
def bm (n k : Nat) : Array Bool := ((List.range n).map fun i => k.testBit i).toArray
theorem pureA_ {oi : Oper} {v : Value} {fuel : Nat} {l : Array Bool} {a a' : Act} {w : World} (i M : Nat) (l' : Array Bool) (h : wpAnyLast P md ops Q S ds fuel l' a' w) (hi : ops[i]? = some oi := by exact rfl) (hN : oi.dst = some M := by exact rfl) (hc : anyB md ops l l' i = true := by exact any_of HT_.out (by kernel_rfl))
    (hw : Region.wanted oi (yielded ops a.tmps) = true := by rfl) (hy : ∀ w, (execOp a.eval oi).run P w = .ok (.value v) w := by intro w'; go_simp; with_reducible rfl)
    (ha : a.put (some M) v = a' := by simp only [Act.put, List.setIfInBounds_toArray, List.set_cons_zero, List.set_cons_succ, i64_w, i32_w]; rfl) (hQ : ∀ c a w, Q (.panic c) (a.put oi.dst v) w → Q (.panic c) a w := by exact fun _ _ _ h => h) :
    wpAnyLast P md ops Q S ds (fuel + 1) l a w := pure_ l' hi hN hc hQ (Or.inl ⟨hw, hy⟩) ha h
theorem pureU_ {oi : Oper} {fuel : Nat} {l : Array Bool} {a a' : Act} {w : World} (i M : Nat) (l' : Array Bool) (h : wpAnyLast P md ops Q S ds fuel l' a' w) (hi : ops[i]? = some oi := by exact rfl) (hN : oi.dst = some M := by exact rfl) (hc : anyB md ops l l' i = true := by exact any_of HT_.out (by kernel_rfl))
    (hw : Region.wanted oi (yielded ops a.tmps) = false := by rfl)
    (ha : a.put (some M) undef = a' := by simp only [Act.put, List.setIfInBounds_toArray, List.set_cons_zero, List.set_cons_succ, i64_w, i32_w]; rfl) (hQ : ∀ c a w, Q (.panic c) (a.put oi.dst undef) w → Q (.panic c) a w := by exact fun _ _ _ h => h) :
    wpAnyLast P md ops Q S ds (fuel + 1) l a w := pure_ l' hi hN hc hQ (Or.inr ⟨hw, rfl⟩) ha h
end
end Go.Proofs.YtcfbcoinbecdfaaW.PrintLast
