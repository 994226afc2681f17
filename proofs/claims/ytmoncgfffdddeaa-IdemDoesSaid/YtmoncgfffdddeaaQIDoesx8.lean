-- written by a program of this session (wip/print)
import Derived.Test.YtmoncgfffdddeaaQIDoesx0
import Derived.Test.YtmoncgfffdddeaaQIDoesx1
import Derived.Test.YtmoncgfffdddeaaQIDoesx2
import Derived.Test.YtmoncgfffdddeaaQIDoesx3
import Derived.Test.YtmoncgfffdddeaaQIDoesx4
import Derived.Test.YtmoncgfffdddeaaQIDoesx5
import Derived.Test.YtmoncgfffdddeaaQIDoesx6
import Derived.Test.YtmoncgfffdddeaaQIDoesx7
namespace Go.Proofs.Ytmoncgfffdddeaa.P
open Go.RowKit Go.Proofs.YtmoncgfffdddeaaW.PrintWords Go.Proofs.YtmoncgfffdddeaaW.PrintLast Go.Proofs.YtmoncgfffdddeaaW.PrintMore
attribute [local go_sem] max2_int min2_int max_two min_two max_three min_three max_four min_four   -- for this text's walks alone
set_option linter.unusedVariables false
set_option linter.unusedSimpArgs false

/-! ### damsonlaw14_IdemDoes: function 5 (by hand) -/
def damsonlaw14_IdemDoes.b (k : Nat) (l0 l1 : List (S26)) (a2_0 : Int) (l2_1 l2_2 : List Int) (a2_3 : Int) (a3 : Int) (l4 : List Int) (a5 : Int) : Option (Bool) :=
  (damsonref14_Copy.f k l0).bind fun w0 => (idem_Put.f k l0 a2_0 l2_1 l2_2 a2_3 a5).bind fun a => (damsonref14_Put.f k l0 a2_0 l2_1 l2_2 a2_3 a5).bind fun b => (idem_Look.f k l0 a3 l4 a5).bind fun c => (damsonref14_Look.f k l0 a3 l4 a5).bind fun d => (idem_Sweep.f k l0 a5).bind fun p => (damsonref14_Sweep.f k l0 a5).bind fun q =>
  (damsonref14_Same.f k a.1 b.1).bind fun s1 => (damsonref01_SameBytes.f c.1 d.1).bind fun s2 => (damsonref14_Same.f k p.1 q.1).bind fun s3 => (idem_Check.f k l0).bind fun c1 => (damsonref14_Check.f k l0).bind fun c2 => (idem_Same.f k l0 l1).bind fun m1 => (damsonref14_Same.f k l0 l1).bind fun m2 => (damsonref14_Same.f k l0 w0).bind fun z =>
  if s1 = true ∧ s2 = true ∧ s3 = true ∧ a.2 = b.2 ∧ c.2 = d.2 ∧ p.2 = q.2 ∧ c1 = c2 ∧ m1 = m2 then some z else none
def damsonlaw14_IdemDoes.f (k : Nat) (l0 l1 : List (S26)) (a2_0 : Int) (l2_1 l2_2 : List Int) (a2_3 : Int) (a3 : Int) (l4 : List Int) (a5 : Int) : Option (Bool) := (damsonlaw14_live.f k).bind fun t1 => (if t1 = true then ((damsonref14_Few.f k l0).bind fun t2 => (if t2 = true then ((damsonref14_Few.f k l1).bind fun t3 => (if t3 = true then ((damsonlaw14_short.f k [l2_1, l2_2, l4]).bind fun t4 => (if t4 = true then damsonlaw14_IdemDoes.b k l0 l1 a2_0 l2_1 l2_2 a2_3 a3 l4 a5 else (some true))) else (some true))) else (some true))) else (some false))
theorem damsonlaw14_IdemDoes.mono : ∀ a0 a1 a2 a3 a4 a5 a6 a7 a8 k, LeO (damsonlaw14_IdemDoes.f k a0 a1 a2 a3 a4 a5 a6 a7 a8) (damsonlaw14_IdemDoes.f (k + 1) a0 a1 a2 a3 a4 a5 a6 a7 a8) := by
  intro a0 a1 a2 a3 a4 a5 a6 a7 a8 k
  unfold damsonlaw14_IdemDoes.f damsonlaw14_IdemDoes.b
  repeat' first
    | (with_reducible exact LeO.refl _)
    | apply damsonlaw14_live.mono
    | apply damsonref14_Few.mono
    | apply damsonlaw14_short.mono
    | apply damsonref14_Copy.mono
    | apply idem_Put.mono
    | apply damsonref14_Put.mono
    | apply idem_Look.mono
    | apply damsonref14_Look.mono
    | apply idem_Sweep.mono
    | apply damsonref14_Sweep.mono
    | apply damsonref14_Same.mono
    | apply idem_Check.mono
    | apply damsonref14_Check.mono
    | apply idem_Same.mono
    | (with_reducible refine LeO.ite ?_ ?_)
    | (with_reducible refine LeO.bind ?_ (fun _ => ?_))
theorem three_C (w : World) {A1 A2 A3 : Option Addr} {d1 d2 d3 : Nat} {x1 x2 x3 : List Int} (h1 : Kd.C (Kd.int .u8) w A1 x1.length x1) (g1 : x1.length ≤ d1) (h2 : Kd.C (Kd.int .u8) w A2 x2.length x2) (g2 : x2.length ≤ d2) (h3 : Kd.C (Kd.int .u8) w A3 x3.length x3) (g3 : x3.length ≤ d3) :
    Kd.C (Kd.slice 5 (Kd.int .u8)) (w.alloc (.cells #[.slice A1 x1.length d1, .slice A2 x2.length d2, .slice A3 x3.length d3] 24)) (some ⟨w.heap.size, 0, none⟩) 3 [x1, x2, x3] := by
  have hb := (Below.refl w.heap.size w).alloc (Nat.le_refl _) (.cells #[.slice A1 x1.length d1, .slice A2 x2.length d2, .slice A3 x3.length d3] 24)
  have hcell : ∀ j, (w.alloc (.cells #[.slice A1 x1.length d1, .slice A2 x2.length d2, .slice A3 x3.length d3] 24)).cell? ⟨w.heap.size, j, none⟩ = (#[.slice A1 x1.length d1, .slice A2 x2.length d2, .slice A3 x3.length d3] : Array Value)[j]? := fun j => blk_cell (blk_new w _) j
  refine ⟨rfl, by decide, fun _ => ⟨_, rfl, fun j p hj => ?_⟩⟩
  have key : ∀ (A : Option Addr) (d : Nat) (x : List Int) (j : Nat), Kd.C (Kd.int .u8) w A x.length x → x.length ≤ d → (#[.slice A1 x1.length d1, .slice A2 x2.length d2, .slice A3 x3.length d3] : Array Value)[j]? = some (.slice A x.length d) → ∃ c : List Value, c.length = (Kd.slice 5 (Kd.int .u8)).sz ∧ (Kd.slice 5 (Kd.int .u8)).K (w.alloc (.cells #[.slice A1 x1.length d1, .slice A2 x2.length d2, .slice A3 x3.length d3] 24)) x c ∧ ∀ i u, c[i]? = some u → (w.alloc (.cells #[.slice A1 x1.length d1, .slice A2 x2.length d2, .slice A3 x3.length d3] 24)).cell? ((⟨w.heap.size, 0, none⟩ : Addr).add (j * (Kd.slice 5 (Kd.int .u8)).sz + i)) = some u := by
    intro A d x j h g hs
    refine ⟨[.slice A x.length d], rfl, ⟨A, d, rfl, g, Kd.C_below h hb⟩, fun i u hi => ?_⟩
    cases i with
    | zero =>
      have e : (Value.slice A x.length d) = u := by simpa using hi
      subst e
      rw [add_plain, hcell]
      have : j * (Kd.slice 5 (Kd.int .u8)).sz + 0 = j := by show j * 1 + 0 = j; omega
      rw [this]; exact hs
    | succ i => simp at hi
  match j with
  | 0 => obtain rfl : x1 = p := by simpa using hj
         exact key A1 d1 x1 0 h1 g1 rfl
  | 1 => obtain rfl : x2 = p := by simpa using hj
         exact key A2 d2 x2 1 h2 g2 rfl
  | 2 => obtain rfl : x3 = p := by simpa using hj
         exact key A3 d3 x3 2 h3 g3 rfl
  | j + 3 => simp at hj
/-- A row of bytes that may be written to. -/
def Byt (w : World) (B : Nat) (v : Value) (n : Nat) : Prop := n = 0 ∨ ∃ g c cur, v = .slice (some ⟨g, 0, none⟩) n c ∧ B ≤ g ∧ w.heap[g]? = some (.cells cur 5 (0, 0)) ∧ ∀ i, i < n → ∃ z : Int, cur[i]? = some (.int .u8 z)
/-- A row of keys whose texts may be written to. -/
def Row26 (w : World) (B : Nat) (v : Value) (n : Nat) : Prop := n = 0 ∨ ∃ g c cur, v = .slice (some ⟨g, 0, none⟩) n c ∧ w.heap[g]? = some (.cells cur 26 (0, 0)) ∧ ∀ i, i < n → ∃ (A1 : Option Addr) (n1 c1 : Nat) (A2 : Option Addr) (n2 c2 : Nat), cur[i * 4 + 1]? = some (.slice A1 n1 c1) ∧ cur[i * 4 + 2]? = some (.slice A2 n2 c2) ∧ n1 ≤ 9223372036854775807 ∧ n2 ≤ 9223372036854775807 ∧ Byt w B (.slice A1 n1 c1) n1 ∧ Byt w B (.slice A2 n2 c2) n2
theorem byt_of_R {w : World} {base B : Nat} {ok : Nat → Prop} {v : Value} {xs : List Int} (h : (Kd.int .u8).R 5 w base ok v xs) (hb : B ≤ base) : Byt w B v xs.length := by
  have ho := Kd.own_of_R h
  rcases ho.2 with ⟨rfl, hn⟩ | ⟨g, cap, cur, rfl, hbg, hblk, hnc, hcm, hcs, hct⟩
  · exact .inl hn
  · refine .inr ⟨g, cap, cur, rfl, Nat.le_trans hb hbg, hblk, fun i hi => ⟨xs[i], ?_⟩⟩
    have e : (cur.toList.take (xs.length * 1))[i]? = some (.int .u8 xs[i]) := by rw [hct]; simp [encs, List.getElem?_eq_getElem hi]
    rw [List.getElem?_take_of_lt (by omega)] at e
    simpa using e
theorem row26_of_S {w : World} {base B : Nat} {ok : Nat → Prop} {v : Value} {xs : List S26} (h : Kd.S k26 26 w base ok v xs) (hb : B ≤ base) : Row26 w B v xs.length := by
  have hR := Kd.S_R h
  rcases Nat.eq_zero_or_pos xs.length with h0 | h0
  · exact .inl h0
  · obtain ⟨g, cap, rfl, hbg, hgl, cells, hblk⟩ := Kd.R_form hR h0
    refine .inr ⟨g, cap, cells, rfl, hblk, fun i hi => ?_⟩
    obtain ⟨c, hcl, hM, hcc⟩ := Kd.S_get h z26 (i : Int) (by omega) (by omega)
    obtain ⟨v1, v2, rfl, r1, r2⟩ := k26_openM hM
    obtain ⟨A1, c1, e1⟩ := Kd.R_slice r1
    obtain ⟨A2, c2, e2⟩ := Kd.R_slice r2
    subst e1
    subst e2
    have q : ∀ j u, ([.int .u64 (xs.getD (i : Int).toNat z26).f0, .slice A1 (xs.getD (i : Int).toNat z26).f1.length c1, .slice A2 (xs.getD (i : Int).toNat z26).f2.length c2, .int .u64 (xs.getD (i : Int).toNat z26).f3] : List Value)[j]? = some u → cells[i * 4 + j]? = some u := fun j u hj => by
      have := hcc j u hj
      rw [add_plain, blk_cell hblk, Int.toNat_natCast] at this
      exact this
    exact ⟨A1, _, c1, A2, _, c2, q 1 _ rfl, q 2 _ rfl, (Kd.R_reads' r1).2.2.2.1, (Kd.R_reads' r2).2.2.2.1, byt_of_R r1 hb, byt_of_R r2 hb⟩
theorem Byt.below {w w1 : World} {B : Nat} {v : Value} {n : Nat} (h : Byt w B v n) (hb : Below w.heap.size w w1) : Byt w1 B v n := by
  rcases h with h | ⟨g, c, cur, hv, hg, hblk, hz⟩
  · exact .inl h
  · exact .inr ⟨g, c, cur, hv, hg, blk_below hblk hb, hz⟩
theorem Row26.below {w w1 : World} {B : Nat} {v : Value} {n : Nat} (h : Row26 w B v n) (hb : Below w.heap.size w w1) : Row26 w1 B v n := by
  rcases h with h | ⟨g, c, cur, hv, hblk, hz⟩
  · exact .inl h
  · refine .inr ⟨g, c, cur, hv, blk_below hblk hb, fun i hi => ?_⟩
    obtain ⟨A1, n1, c1, A2, n2, c2, q1, q2, m1, m2, b1, b2⟩ := hz i hi
    exact ⟨A1, n1, c1, A2, n2, c2, q1, q2, m1, m2, b1.below hb, b2.below hb⟩
theorem Byt.put {w : World} {B : Nat} {v : Value} {n : Nat} (h : Byt w B v n) {g : Nat} {cur : Array Value} (hc : w.heap[g]? = some (.cells cur 5 (0, 0))) (j : Nat) (z : Int) : Byt (w.setCell ⟨g, j, none⟩ (.int .u8 z)) B v n := by
  rcases h with h | ⟨g1, c, cur1, hv, hg, hblk, hz⟩
  · exact .inl h
  · by_cases e : g1 = g
    · subst e
      rw [hblk] at hc
      injection hc with hc
      injection hc with hc
      subst hc
      refine .inr ⟨g1, c, _, hv, hg, blk_set hblk j _, fun i hi => ?_⟩
      obtain ⟨z1, hz1⟩ := hz i hi
      by_cases ej : j = i
      · subst ej
        have hlt := (Array.getElem?_eq_some_iff.1 hz1).1
        exact ⟨z, by rw [Array.getElem?_setIfInBounds, if_pos rfl, if_pos hlt]⟩
      · exact ⟨z1, by rw [Array.getElem?_setIfInBounds, if_neg ej]; exact hz1⟩
    · exact .inr ⟨g1, c, cur1, hv, hg, blk_far hblk e _, hz⟩
theorem Row26.put {w : World} {B : Nat} {v : Value} {n : Nat} (h : Row26 w B v n) {g : Nat} {cur : Array Value} (hc : w.heap[g]? = some (.cells cur 5 (0, 0))) (j : Nat) (z : Int) : Row26 (w.setCell ⟨g, j, none⟩ (.int .u8 z)) B v n := by
  rcases h with h | ⟨g1, c, cur1, hv, hblk, hz⟩
  · exact .inl h
  · have hne := blk_ne hblk hc (by decide)
    refine .inr ⟨g1, c, cur1, hv, blk_far hblk hne _, fun i hi => ?_⟩
    obtain ⟨A1, n1, c1, A2, n2, c2, q1, q2, m1, m2, b1, b2⟩ := hz i hi
    exact ⟨A1, n1, c1, A2, n2, c2, q1, q2, m1, m2, b1.put hc j z, b2.put hc j z⟩
/-- What stays while the rows that were made are written to. -/
structure Inv14 (w5 : World) (vc : Value) (nc : Nat) (va : Value) (na : Nat) (vp : Value) (np : Nat) (wr : World) : Prop where
  bel : Below w5.heap.size w5 wr
  c : Byt wr w5.heap.size vc nc
  a : Row26 wr w5.heap.size va na
  p : Row26 wr w5.heap.size vp np
theorem Inv14.put {w5 : World} {vc : Value} {nc : Nat} {va : Value} {na : Nat} {vp : Value} {np : Nat} {wr : World} (h : Inv14 w5 vc nc va na vp np wr) {g : Nat} {cur : Array Value} (hc : wr.heap[g]? = some (.cells cur 5 (0, 0))) (hg : w5.heap.size ≤ g) (j : Nat) (z : Int) : Inv14 w5 vc nc va na vp np (wr.setCell ⟨g, j, none⟩ (.int .u8 z)) :=
  ⟨h.bel.setCell hg _, h.c.put hc j z, h.a.put hc j z, h.p.put hc j z⟩
set_option maxHeartbeats 16000000 in
set_option maxRecDepth 100000 in
theorem damsonlaw14_IdemDoes.calls (k : Nat) (A0 : Option Addr) (c0 : Nat) (l0 : List (S26)) (A1 : Option Addr) (c1 : Nat) (l1 : List (S26)) (a2_0 : Int) (A2_1 : Option Addr) (c2_1 : Nat) (l2_1 : List Int) (A2_2 : Option Addr) (c2_2 : Nat) (l2_2 : List Int) (a2_3 : Int) (a3 : Int) (A4 : Option Addr) (c4 : Nat) (l4 : List Int) (a5 : Int) (r : Bool) (w : World) (hr0 : Kd.C k26 w A0 l0.length l0) (hc0 : l0.length ≤ c0) (hr1 : Kd.C k26 w A1 l1.length l1) (hc1 : l1.length ≤ c1) (hr2_1 : Kd.C (Kd.int .u8) w A2_1 l2_1.length l2_1) (hc2_1 : l2_1.length ≤ c2_1) (hr2_2 : Kd.C (Kd.int .u8) w A2_2 l2_2.length l2_2) (hc2_2 : l2_2.length ≤ c2_2) (hr4 : Kd.C (Kd.int .u8) w A4 l4.length l4) (hc4 : l4.length ≤ c4) (h : damsonlaw14_IdemDoes.f k l0 l1 a2_0 l2_1 l2_2 a2_3 a3 l4 a5 = some r) :
    Calls Try.prog 5 #[.slice A0 l0.length c0, .slice A1 l1.length c1, .agg #[.int .u64 a2_0, .slice A2_1 l2_1.length c2_1, .slice A2_2 l2_2.length c2_2, .int .u64 a2_3], .int .u64 a3, .slice A4 l4.length c4, .int .u64 a5] w fun e w' => e = .returned (.bool r) ∧ Below w.heap.size w w' := by
  have HR0 := Aside0.mk hr0
  have HC0 := Aside0.mk hc0
  have HR1 := Aside0.mk hr1
  have HC1 := Aside0.mk hc1
  have HX1 := Aside0.mk hr2_1
  have HY1 := Aside0.mk hc2_1
  have HX2 := Aside0.mk hr2_2
  have HY2 := Aside0.mk hc2_2
  have HR4 := Aside0.mk hr4
  have HC4 := Aside0.mk hc4
  clear hr0 hc0 hr1 hc1 hr2_1 hc2_1 hr2_2 hc2_2 hr4 hc4
  have HB0 := Aside0.mk ((Below.refl w.heap.size w).alloc (Nat.le_refl _) (.cells #[.int .u64 a2_0, .slice A2_1 l2_1.length c2_1, .slice A2_2 l2_2.length c2_2, .int .u64 a2_3] 26))
  have HK0 := Aside0.mk (blk_new w (.cells #[.int .u64 a2_0, .slice A2_1 l2_1.length c2_1, .slice A2_2 l2_2.length c2_2, .int .u64 a2_3] 26))
  obtain ⟨t1, h1, h⟩ := Option.bind_eq_some_iff.mp h
  have HL := Aside0.mk h1
  clear h1
  cases t1 with
  | false =>
    rw [if_neg (by decide)] at h
    injection h with h
    subst h
    go_enter Try.func5, Try.ntmps5
    go_wp2_with (first | (go_at_call 8; refine (damsonlaw14_live.calls k _ _ HL.out).mono ?_; rintro e w1 ⟨rfl, hb⟩; have HB1 := Aside0.mk (below_then HB0.out HB0.out.size hb); have HK1 := Aside0.mk (blk_below HK0.out hb); clear hb HL))
    go_ret
    exact ⟨rfl, HB1.out⟩
  | true =>
  rw [if_pos rfl] at h
  obtain ⟨t2, h1, h⟩ := Option.bind_eq_some_iff.mp h
  have HF0 := Aside0.mk h1
  clear h1
  cases t2 with
  | false =>
    rw [if_neg (by decide)] at h
    injection h with h
    subst h
    go_enter Try.func5, Try.ntmps5
    go_wp2_with (first | (go_at_call 8; refine (damsonlaw14_live.calls k _ _ HL.out).mono ?_; rintro e w1 ⟨rfl, hb⟩; have HB1 := Aside0.mk (below_then HB0.out HB0.out.size hb); have HK1 := Aside0.mk (blk_below HK0.out hb); clear hb HL) | (go_at_call 9; refine (damsonref14_Few.calls k A0 c0 l0 _ _ (Kd.C_below HR0.out HB1.out) HC0.out HF0.out).mono ?_; rintro e w2 ⟨rfl, hb⟩; have HB2 := Aside0.mk (below_then HB1.out HB1.out.size hb); have HK2 := Aside0.mk (blk_below HK1.out hb); clear hb HF0))
    go_ret
    exact ⟨rfl, HB2.out⟩
  | true =>
  rw [if_pos rfl] at h
  obtain ⟨t3, h1, h⟩ := Option.bind_eq_some_iff.mp h
  have HF1 := Aside0.mk h1
  clear h1
  cases t3 with
  | false =>
    rw [if_neg (by decide)] at h
    injection h with h
    subst h
    go_enter Try.func5, Try.ntmps5
    go_wp2_with (first | (go_at_call 8; refine (damsonlaw14_live.calls k _ _ HL.out).mono ?_; rintro e w1 ⟨rfl, hb⟩; have HB1 := Aside0.mk (below_then HB0.out HB0.out.size hb); have HK1 := Aside0.mk (blk_below HK0.out hb); clear hb HL) | (go_at_call 9; refine (damsonref14_Few.calls k A0 c0 l0 _ _ (Kd.C_below HR0.out HB1.out) HC0.out HF0.out).mono ?_; rintro e w2 ⟨rfl, hb⟩; have HB2 := Aside0.mk (below_then HB1.out HB1.out.size hb); have HK2 := Aside0.mk (blk_below HK1.out hb); clear hb HF0) | (go_at_call 9; refine (damsonref14_Few.calls k A1 c1 l1 _ _ (Kd.C_below HR1.out HB2.out) HC1.out HF1.out).mono ?_; rintro e w3 ⟨rfl, hb⟩; have HB3 := Aside0.mk (below_then HB2.out HB2.out.size hb); have HK3 := Aside0.mk (blk_below HK2.out hb); obtain ⟨hz30, hz31, hz32, hz33, hz34, hz35, hz36, hz37⟩ := cz4_ HK3.out; clear hb HF1))
    go_ret
    exact ⟨rfl, HB3.out⟩
  | true =>
  rw [if_pos rfl] at h
  obtain ⟨t4, h1, h⟩ := Option.bind_eq_some_iff.mp h
  have HFs := Aside0.mk h1
  clear h1
  cases t4 with
  | false =>
    rw [if_neg (by decide)] at h
    injection h with h
    subst h
    go_enter Try.func5, Try.ntmps5
    go_wp2_with (first | (go_at_call 8; refine (damsonlaw14_live.calls k _ _ HL.out).mono ?_; rintro e w1 ⟨rfl, hb⟩; have HB1 := Aside0.mk (below_then HB0.out HB0.out.size hb); have HK1 := Aside0.mk (blk_below HK0.out hb); clear hb HL) | (go_at_call 9; refine (damsonref14_Few.calls k A0 c0 l0 _ _ (Kd.C_below HR0.out HB1.out) HC0.out HF0.out).mono ?_; rintro e w2 ⟨rfl, hb⟩; have HB2 := Aside0.mk (below_then HB1.out HB1.out.size hb); have HK2 := Aside0.mk (blk_below HK1.out hb); clear hb HF0) | (go_at_call 9; refine (damsonref14_Few.calls k A1 c1 l1 _ _ (Kd.C_below HR1.out HB2.out) HC1.out HF1.out).mono ?_; rintro e w3 ⟨rfl, hb⟩; have HB3 := Aside0.mk (below_then HB2.out HB2.out.size hb); have HK3 := Aside0.mk (blk_below HK2.out hb); obtain ⟨hz30, hz31, hz32, hz33, hz34, hz35, hz36, hz37⟩ := cz4_ HK3.out; clear hb HF1) | (go_at_call 10; refine (damsonlaw14_short.calls k (some ⟨w3.heap.size, 0, none⟩) 3 [l2_1, l2_2, l4] _ _ (three_C w3 (Kd.C_below HX1.out HB3.out) HY1.out (Kd.C_below HX2.out HB3.out) HY2.out (Kd.C_below HR4.out HB3.out) HC4.out) (Nat.le_refl _) HFs.out).mono ?_; rintro e w4 ⟨rfl, hd⟩; have hb := ((Below.refl w3.heap.size w3).alloc (Nat.le_refl _) (.cells #[.slice A2_1 l2_1.length c2_1, .slice A2_2 l2_2.length c2_2, .slice A4 l4.length c4] 24)).trans (hd.below.mono (by simp)); have HB4 := Aside0.mk (below_then HB3.out HB3.out.size hb); have HK4 := Aside0.mk (blk_below HK3.out hb); clear hz30 hz31 hz32 hz33 hz34 hz35 hz36 hz37; clear hb hd HFs))
    go_ret
    exact ⟨rfl, HB4.out⟩
  | true =>
  rw [if_pos rfl] at h
  unfold damsonlaw14_IdemDoes.b at h
  obtain ⟨lw, h1, h⟩ := Option.bind_eq_some_iff.mp h
  have HFw := Aside0.mk h1
  clear h1
  obtain ⟨⟨la, ea⟩, h1, h⟩ := Option.bind_eq_some_iff.mp h
  have HFa := Aside0.mk h1
  clear h1
  obtain ⟨⟨lb, eb⟩, h1, h⟩ := Option.bind_eq_some_iff.mp h
  have HFb := Aside0.mk h1
  clear h1
  obtain ⟨⟨lc, ec⟩, h1, h⟩ := Option.bind_eq_some_iff.mp h
  have HFc := Aside0.mk h1
  clear h1
  obtain ⟨⟨ld, ed⟩, h1, h⟩ := Option.bind_eq_some_iff.mp h
  have HFd := Aside0.mk h1
  clear h1
  obtain ⟨⟨lp, ep⟩, h1, h⟩ := Option.bind_eq_some_iff.mp h
  have HFp := Aside0.mk h1
  clear h1
  obtain ⟨⟨lq, eq⟩, h1, h⟩ := Option.bind_eq_some_iff.mp h
  have HFq := Aside0.mk h1
  clear h1
  obtain ⟨ts1, h1, h⟩ := Option.bind_eq_some_iff.mp h
  have HFs1 := Aside0.mk h1
  clear h1
  obtain ⟨ts2, h1, h⟩ := Option.bind_eq_some_iff.mp h
  have HFs2 := Aside0.mk h1
  clear h1
  obtain ⟨ts3, h1, h⟩ := Option.bind_eq_some_iff.mp h
  have HFs3 := Aside0.mk h1
  clear h1
  obtain ⟨tk1, h1, h⟩ := Option.bind_eq_some_iff.mp h
  have HFk1 := Aside0.mk h1
  clear h1
  obtain ⟨tk2, h1, h⟩ := Option.bind_eq_some_iff.mp h
  have HFk2 := Aside0.mk h1
  clear h1
  obtain ⟨tm1, h1, h⟩ := Option.bind_eq_some_iff.mp h
  have HFm1 := Aside0.mk h1
  clear h1
  obtain ⟨tm2, h1, h⟩ := Option.bind_eq_some_iff.mp h
  have HFm2 := Aside0.mk h1
  clear h1
  obtain ⟨tz, h1, h⟩ := Option.bind_eq_some_iff.mp h
  have HFz := Aside0.mk h1
  clear h1
  by_cases hc : ts1 = true ∧ ts2 = true ∧ ts3 = true ∧ ea = eb ∧ ec = ed ∧ ep = eq ∧ tk1 = tk2 ∧ tm1 = tm2
  case neg => rw [if_neg hc] at h; cases h
  rw [if_pos hc] at h
  injection h with h
  subst h
  obtain ⟨rfl, rfl, rfl, g1, g2, g3, g4, g5⟩ := hc
  have gb1 : (ea == eb) = true := beq_iff_eq.mpr g1
  have gb2 : (ec == ed) = true := beq_iff_eq.mpr g2
  have gb3 : (ep == eq) = true := beq_iff_eq.mpr g3
  have gb4 : (tk1 == tk2) = true := beq_iff_eq.mpr g4
  have gb5 : (tm1 == tm2) = true := beq_iff_eq.mpr g5
  clear g1 g2 g3 g4 g5
  go_enter Try.func5, Try.ntmps5
  go_wp2_with (first | (go_at_call 8; refine (damsonlaw14_live.calls k _ _ HL.out).mono ?_; rintro e w1 ⟨rfl, hb⟩; have HB1 := Aside0.mk (below_then HB0.out HB0.out.size hb); have HK1 := Aside0.mk (blk_below HK0.out hb); clear hb HL) | (go_at_call 9; refine (damsonref14_Few.calls k A0 c0 l0 _ _ (Kd.C_below HR0.out HB1.out) HC0.out HF0.out).mono ?_; rintro e w2 ⟨rfl, hb⟩; have HB2 := Aside0.mk (below_then HB1.out HB1.out.size hb); have HK2 := Aside0.mk (blk_below HK1.out hb); clear hb HF0) | (go_at_call 9; refine (damsonref14_Few.calls k A1 c1 l1 _ _ (Kd.C_below HR1.out HB2.out) HC1.out HF1.out).mono ?_; rintro e w3 ⟨rfl, hb⟩; have HB3 := Aside0.mk (below_then HB2.out HB2.out.size hb); have HK3 := Aside0.mk (blk_below HK2.out hb); obtain ⟨hz30, hz31, hz32, hz33, hz34, hz35, hz36, hz37⟩ := cz4_ HK3.out; clear hb HF1) | (go_at_call 10; refine (damsonlaw14_short.calls k (some ⟨w3.heap.size, 0, none⟩) 3 [l2_1, l2_2, l4] _ _ (three_C w3 (Kd.C_below HX1.out HB3.out) HY1.out (Kd.C_below HX2.out HB3.out) HY2.out (Kd.C_below HR4.out HB3.out) HC4.out) (Nat.le_refl _) HFs.out).mono ?_; rintro e w4 ⟨rfl, hd⟩; have hb := ((Below.refl w3.heap.size w3).alloc (Nat.le_refl _) (.cells #[.slice A2_1 l2_1.length c2_1, .slice A2_2 l2_2.length c2_2, .slice A4 l4.length c4] 24)).trans (hd.below.mono (by simp)); have HB4 := Aside0.mk (below_then HB3.out HB3.out.size hb); have HK4 := Aside0.mk (blk_below HK3.out hb); clear hz30 hz31 hz32 hz33 hz34 hz35 hz36 hz37; clear hb hd HFs) | (go_at_call 15; refine (damsonref14_Copy.calls k A0 c0 l0 lw _ (Kd.C_below HR0.out HB4.out) HC0.out HFw.out).mono ?_; rintro e w5 ⟨v, rfl, ho, hb⟩; obtain ⟨Aw, cw, ev⟩ := Kd.S_slice ho; subst ev; have HOw := Aside0.mk (Kd.S_reads' ho); have HB5 := Aside0.mk (below_then HB4.out HB4.out.size hb); have HK5 := Aside0.mk (blk_below HK4.out hb); obtain ⟨hz50, hz51, hz52, hz53, hz54, hz55, hz56, hz57⟩ := cz4_ HK5.out; have HW5 := Aside0.mk (Below.refl w5.heap.size w5); clear ho hb HFw) | (go_at_call 11; refine (idem_Put.calls k A0 c0 l0 a2_0 A2_1 c2_1 l2_1 A2_2 c2_2 l2_2 a2_3 a5 la ea _ (Kd.C_below HR0.out HB5.out) HC0.out (Kd.C_below HX1.out HB5.out) HY1.out (Kd.C_below HX2.out HB5.out) HY2.out HFa.out).mono ?_; rintro e w6 ⟨v, rfl, ho, hb⟩; obtain ⟨Aa, ca, ev⟩ := Kd.S_slice ho; subst ev; have HOa6 := Aside0.mk (Kd.S_reads' ho).2.2; have HLa := Aside0.mk (Kd.S_reads' ho).2.1; have HVa6 := Aside0.mk (row26_of_S ho HW5.out.size); have hxa : la.length ≤ 9223372036854775807 := (Kd.S_reads' ho).2.2.2.1; have HB6 := Aside0.mk (below_then HB5.out HB5.out.size hb); have HK6 := Aside0.mk (blk_below HK5.out hb); have HW6 := Aside0.mk (below_then HW5.out HW5.out.size hb); obtain ⟨hz60, hz61, hz62, hz63, hz64, hz65, hz66, hz67⟩ := cz4_ HK6.out; clear hz50 hz51 hz52 hz53 hz54 hz55 hz56 hz57; clear ho hb HFa) | (go_at_call 16; refine (damsonref14_Put.calls k A0 c0 l0 a2_0 (fun _ => True) A2_1 c2_1 l2_1 (fun _ => True) A2_2 c2_2 l2_2 a2_3 a5 lb eb _ (Kd.C_below HR0.out HB6.out) HC0.out (V_all (moves_scalar _ _) (Kd.C_below HX1.out HB6.out) HY1.out) (V_all (moves_scalar _ _) (Kd.C_below HX2.out HB6.out) HY2.out) HFb.out).mono ?_; rintro e w7 ⟨v, rfl, ho, hb⟩; obtain ⟨Ab, cb, ev⟩ := Kd.N_slice ho; subst ev; have HOa7 := Aside0.mk (Kd.C_below HOa6.out hb); clear HOa6; have HVa7 := Aside0.mk (HVa6.out.below hb); clear HVa6; have HOb7 := Aside0.mk (Kd.N_reads' ho).2.2; have HLb := Aside0.mk (Kd.N_reads' ho).2.1; have HB7 := Aside0.mk (below_then HB6.out HB6.out.size hb); have HK7 := Aside0.mk (blk_below HK6.out hb); have HW7 := Aside0.mk (below_then HW6.out HW6.out.size hb); clear hz60 hz61 hz62 hz63 hz64 hz65 hz66 hz67; clear ho hb HFb) | (go_at_call 13; refine (idem_Look.calls k A0 c0 l0 a3 A4 c4 l4 a5 lc ec _ (Kd.C_below HR0.out HB7.out) HC0.out (Kd.C_below HR4.out HB7.out) HC4.out HFc.out).mono ?_; rintro e w8 ⟨v, rfl, ho, hb⟩; obtain ⟨Ac, cc, ev⟩ := Kd.R_slice ho; subst ev; have HOa8 := Aside0.mk (Kd.C_below HOa7.out hb); clear HOa7; have HOb8 := Aside0.mk (Kd.C_below HOb7.out hb); clear HOb7; have HVa8 := Aside0.mk (HVa7.out.below hb); clear HVa7; have HOc8 := Aside0.mk (Kd.R_reads' ho).2.2; have HLc := Aside0.mk (Kd.R_reads' ho).2.1; have HVc8 := Aside0.mk (byt_of_R ho HW7.out.size); have hxc : lc.length ≤ 9223372036854775807 := (Kd.R_reads' ho).2.2.2.1; have HB8 := Aside0.mk (below_then HB7.out HB7.out.size hb); have HK8 := Aside0.mk (blk_below HK7.out hb); have HW8 := Aside0.mk (below_then HW7.out HW7.out.size hb); clear ho hb HFc) | (go_at_call 17; refine (damsonref14_Look.calls k A0 c0 l0 a3 A4 c4 l4 a5 ld ed _ (Kd.C_below HR0.out HB8.out) HC0.out (Kd.C_below HR4.out HB8.out) HC4.out HFd.out).mono ?_; rintro e w9 ⟨Ad, cd, rfl, hld, hod, hb⟩; have HOa9 := Aside0.mk (Kd.C_below HOa8.out hb); clear HOa8; have HOb9 := Aside0.mk (Kd.C_below HOb8.out hb); clear HOb8; have HOc9 := Aside0.mk (Kd.C_below HOc8.out hb); clear HOc8; have HVa9 := Aside0.mk (HVa8.out.below hb); clear HVa8; have HVc9 := Aside0.mk (HVc8.out.below hb); clear HVc8; have HOd9 := Aside0.mk hod; have HLd := Aside0.mk hld; have HB9 := Aside0.mk (below_then HB8.out HB8.out.size hb); have HK9 := Aside0.mk (blk_below HK8.out hb); have HW9 := Aside0.mk (below_then HW8.out HW8.out.size hb); clear hod hld hb HFd) | (go_at_call 12; refine (idem_Sweep.calls k A0 c0 l0 a5 lp ep _ (Kd.C_below HR0.out HB9.out) HC0.out HFp.out).mono ?_; rintro e w10 ⟨v, rfl, ho, hb⟩; obtain ⟨Ap, cp, ev⟩ := Kd.S_slice ho; subst ev; have HOa10 := Aside0.mk (Kd.C_below HOa9.out hb); clear HOa9; have HOb10 := Aside0.mk (Kd.C_below HOb9.out hb); clear HOb9; have HOc10 := Aside0.mk (Kd.C_below HOc9.out hb); clear HOc9; have HOd10 := Aside0.mk (Kd.C_below HOd9.out hb); clear HOd9; have HVa10 := Aside0.mk (HVa9.out.below hb); clear HVa9; have HVc10 := Aside0.mk (HVc9.out.below hb); clear HVc9; have HOp10 := Aside0.mk (Kd.S_reads' ho).2.2; have HLp := Aside0.mk (Kd.S_reads' ho).2.1; have HVp10 := Aside0.mk (row26_of_S ho HW9.out.size); have hxp : lp.length ≤ 9223372036854775807 := (Kd.S_reads' ho).2.2.2.1; have HB10 := Aside0.mk (below_then HB9.out HB9.out.size hb); have HK10 := Aside0.mk (blk_below HK9.out hb); have HW10 := Aside0.mk (below_then HW9.out HW9.out.size hb); clear ho hb HFp) | (go_at_call 18; refine (damsonref14_Sweep.calls k A0 c0 l0 a5 lq eq _ (Kd.C_below HR0.out HB10.out) HC0.out HFq.out).mono ?_; rintro e w11 ⟨v, rfl, ho, hb⟩; obtain ⟨Aq, cq, ev⟩ := Kd.N_slice ho; subst ev; have HOa11 := Aside0.mk (Kd.C_below HOa10.out hb); clear HOa10; have HOb11 := Aside0.mk (Kd.C_below HOb10.out hb); clear HOb10; have HOc11 := Aside0.mk (Kd.C_below HOc10.out hb); clear HOc10; have HOd11 := Aside0.mk (Kd.C_below HOd10.out hb); clear HOd10; have HOp11 := Aside0.mk (Kd.C_below HOp10.out hb); clear HOp10; have HVa11 := Aside0.mk (HVa10.out.below hb); clear HVa10; have HVc11 := Aside0.mk (HVc10.out.below hb); clear HVc10; have HVp11 := Aside0.mk (HVp10.out.below hb); clear HVp10; have HOq11 := Aside0.mk (Kd.N_reads' ho).2.2; have HLq := Aside0.mk (Kd.N_reads' ho).2.1; have HB11 := Aside0.mk (below_then HB10.out HB10.out.size hb); have HK11 := Aside0.mk (blk_below HK10.out hb); have HW11 := Aside0.mk (below_then HW10.out HW10.out.size hb); clear ho hb HFq) | (go_at_call 19; refine (damsonref14_Same.calls k Aa ca la Ab cb lb true _ HOa11.out HLa.out HOb11.out HLb.out HFs1.out).mono ?_; rintro e w12 ⟨rfl, hb⟩; have HN := Aside0.mk (hb); clear hb; have HOa12 := Aside0.mk (Kd.C_below HOa11.out HN.out); clear HOa11; have HOb12 := Aside0.mk (Kd.C_below HOb11.out HN.out); clear HOb11; have HOc12 := Aside0.mk (Kd.C_below HOc11.out HN.out); clear HOc11; have HOd12 := Aside0.mk (Kd.C_below HOd11.out HN.out); clear HOd11; have HOp12 := Aside0.mk (Kd.C_below HOp11.out HN.out); clear HOp11; have HOq12 := Aside0.mk (Kd.C_below HOq11.out HN.out); clear HOq11; have HVa12 := Aside0.mk (HVa11.out.below HN.out); clear HVa11; have HVc12 := Aside0.mk (HVc11.out.below HN.out); clear HVc11; have HVp12 := Aside0.mk (HVp11.out.below HN.out); clear HVp11; have HB12 := Aside0.mk (below_then HB11.out HB11.out.size HN.out); have HK12 := Aside0.mk (blk_below HK11.out HN.out); have HW12 := Aside0.mk (below_then HW11.out HW11.out.size HN.out); clear HN HFs1) | (go_at_call 14; refine (damsonref01_SameBytes.calls Ac cc lc Ad cd ld true _ HOc12.out HLc.out HOd12.out HLd.out HFs2.out).mono ?_; rintro e w13 ⟨rfl, hd⟩; have HN := Aside0.mk (hd.below); clear hd; have HOa13 := Aside0.mk (Kd.C_below HOa12.out HN.out); clear HOa12; have HOb13 := Aside0.mk (Kd.C_below HOb12.out HN.out); clear HOb12; have HOc13 := Aside0.mk (Kd.C_below HOc12.out HN.out); clear HOc12; have HOd13 := Aside0.mk (Kd.C_below HOd12.out HN.out); clear HOd12; have HOp13 := Aside0.mk (Kd.C_below HOp12.out HN.out); clear HOp12; have HOq13 := Aside0.mk (Kd.C_below HOq12.out HN.out); clear HOq12; have HVa13 := Aside0.mk (HVa12.out.below HN.out); clear HVa12; have HVc13 := Aside0.mk (HVc12.out.below HN.out); clear HVc12; have HVp13 := Aside0.mk (HVp12.out.below HN.out); clear HVp12; have HB13 := Aside0.mk (below_then HB12.out HB12.out.size HN.out); have HK13 := Aside0.mk (blk_below HK12.out HN.out); have HW13 := Aside0.mk (below_then HW12.out HW12.out.size HN.out); clear HN HFs2) | (go_at_call 19; refine (damsonref14_Same.calls k Ap cp lp Aq cq lq true _ HOp13.out HLp.out HOq13.out HLq.out HFs3.out).mono ?_; rintro e w14 ⟨rfl, hb⟩; have HN := Aside0.mk (hb); clear hb; have HOa14 := Aside0.mk (Kd.C_below HOa13.out HN.out); clear HOa13; have HOb14 := Aside0.mk (Kd.C_below HOb13.out HN.out); clear HOb13; have HOc14 := Aside0.mk (Kd.C_below HOc13.out HN.out); clear HOc13; have HOd14 := Aside0.mk (Kd.C_below HOd13.out HN.out); clear HOd13; have HOp14 := Aside0.mk (Kd.C_below HOp13.out HN.out); clear HOp13; have HOq14 := Aside0.mk (Kd.C_below HOq13.out HN.out); clear HOq13; have HVa14 := Aside0.mk (HVa13.out.below HN.out); clear HVa13; have HVc14 := Aside0.mk (HVc13.out.below HN.out); clear HVc13; have HVp14 := Aside0.mk (HVp13.out.below HN.out); clear HVp13; have HB14 := Aside0.mk (below_then HB13.out HB13.out.size HN.out); have HK14 := Aside0.mk (blk_below HK13.out HN.out); have HW14 := Aside0.mk (below_then HW13.out HW13.out.size HN.out); clear HN HFs3) | (go_at_call 20; refine (idem_Check.calls k A0 c0 l0 tk1 _ (Kd.C_below HR0.out HB14.out) HC0.out HFk1.out).mono ?_; rintro e w15 ⟨rfl, hb⟩; have HN := Aside0.mk (hb); clear hb; have HOa15 := Aside0.mk (Kd.C_below HOa14.out HN.out); clear HOa14; have HOb15 := Aside0.mk (Kd.C_below HOb14.out HN.out); clear HOb14; have HOc15 := Aside0.mk (Kd.C_below HOc14.out HN.out); clear HOc14; have HOd15 := Aside0.mk (Kd.C_below HOd14.out HN.out); clear HOd14; have HOp15 := Aside0.mk (Kd.C_below HOp14.out HN.out); clear HOp14; have HOq15 := Aside0.mk (Kd.C_below HOq14.out HN.out); clear HOq14; have HVa15 := Aside0.mk (HVa14.out.below HN.out); clear HVa14; have HVc15 := Aside0.mk (HVc14.out.below HN.out); clear HVc14; have HVp15 := Aside0.mk (HVp14.out.below HN.out); clear HVp14; have HB15 := Aside0.mk (below_then HB14.out HB14.out.size HN.out); have HK15 := Aside0.mk (blk_below HK14.out HN.out); have HW15 := Aside0.mk (below_then HW14.out HW14.out.size HN.out); clear HN HFk1) | (go_at_call 21; refine (damsonref14_Check.calls k A0 c0 l0 tk2 _ (Kd.C_below HR0.out HB15.out) HC0.out HFk2.out).mono ?_; rintro e w16 ⟨rfl, hb⟩; have HN := Aside0.mk (hb); clear hb; have HOa16 := Aside0.mk (Kd.C_below HOa15.out HN.out); clear HOa15; have HOb16 := Aside0.mk (Kd.C_below HOb15.out HN.out); clear HOb15; have HOc16 := Aside0.mk (Kd.C_below HOc15.out HN.out); clear HOc15; have HOd16 := Aside0.mk (Kd.C_below HOd15.out HN.out); clear HOd15; have HOp16 := Aside0.mk (Kd.C_below HOp15.out HN.out); clear HOp15; have HOq16 := Aside0.mk (Kd.C_below HOq15.out HN.out); clear HOq15; have HVa16 := Aside0.mk (HVa15.out.below HN.out); clear HVa15; have HVc16 := Aside0.mk (HVc15.out.below HN.out); clear HVc15; have HVp16 := Aside0.mk (HVp15.out.below HN.out); clear HVp15; have HB16 := Aside0.mk (below_then HB15.out HB15.out.size HN.out); have HK16 := Aside0.mk (blk_below HK15.out HN.out); have HW16 := Aside0.mk (below_then HW15.out HW15.out.size HN.out); clear HN HFk2) | (go_at_call 22; refine (idem_Same.calls k A0 c0 l0 A1 c1 l1 tm1 _ (Kd.C_below HR0.out HB16.out) HC0.out (Kd.C_below HR1.out HB16.out) HC1.out HFm1.out).mono ?_; rintro e w17 ⟨rfl, hb⟩; have HN := Aside0.mk (hb); clear hb; have HOa17 := Aside0.mk (Kd.C_below HOa16.out HN.out); clear HOa16; have HOb17 := Aside0.mk (Kd.C_below HOb16.out HN.out); clear HOb16; have HOc17 := Aside0.mk (Kd.C_below HOc16.out HN.out); clear HOc16; have HOd17 := Aside0.mk (Kd.C_below HOd16.out HN.out); clear HOd16; have HOp17 := Aside0.mk (Kd.C_below HOp16.out HN.out); clear HOp16; have HOq17 := Aside0.mk (Kd.C_below HOq16.out HN.out); clear HOq16; have HVa17 := Aside0.mk (HVa16.out.below HN.out); clear HVa16; have HVc17 := Aside0.mk (HVc16.out.below HN.out); clear HVc16; have HVp17 := Aside0.mk (HVp16.out.below HN.out); clear HVp16; have HB17 := Aside0.mk (below_then HB16.out HB16.out.size HN.out); have HK17 := Aside0.mk (blk_below HK16.out HN.out); have HW17 := Aside0.mk (below_then HW16.out HW16.out.size HN.out); clear HN HFm1) | (go_at_call 19; refine (damsonref14_Same.calls k A0 c0 l0 A1 c1 l1 tm2 _ (Kd.C_below HR0.out HB17.out) HC0.out (Kd.C_below HR1.out HB17.out) HC1.out HFm2.out).mono ?_; rintro e w18 ⟨rfl, hb⟩; have HN := Aside0.mk (hb); clear hb; have HOa18 := Aside0.mk (Kd.C_below HOa17.out HN.out); clear HOa17; have HOb18 := Aside0.mk (Kd.C_below HOb17.out HN.out); clear HOb17; have HOc18 := Aside0.mk (Kd.C_below HOc17.out HN.out); clear HOc17; have HOd18 := Aside0.mk (Kd.C_below HOd17.out HN.out); clear HOd17; have HOp18 := Aside0.mk (Kd.C_below HOp17.out HN.out); clear HOp17; have HOq18 := Aside0.mk (Kd.C_below HOq17.out HN.out); clear HOq17; have HVa18 := Aside0.mk (HVa17.out.below HN.out); clear HVa17; have HVc18 := Aside0.mk (HVc17.out.below HN.out); clear HVc17; have HVp18 := Aside0.mk (HVp17.out.below HN.out); clear HVp17; have HB18 := Aside0.mk (below_then HB17.out HB17.out.size HN.out); have HK18 := Aside0.mk (blk_below HK17.out HN.out); have HW18 := Aside0.mk (below_then HW17.out HW17.out.size HN.out); clear HN HFm2))
  have HI0 : Aside0 (Inv14 w5 (.slice Ac lc.length cc) lc.length (.slice Aa la.length ca) la.length (.slice Ap lp.length cp) lp.length w18) := ⟨⟨HW18.out, HVc18.out, HVa18.out, HVp18.out⟩⟩
  go_loopw [142] (fun v_ wr => ∃ i : Nat, i ≤ lc.length ∧ v_ = .int .i64 i ∧ Aside0 (Inv14 w5 (.slice Ac lc.length cc) lc.length (.slice Aa la.length ca) la.length (.slice Ap lp.length cp) lp.length wr)) (fun v_ _ => lc.length - (intOf v_).toNat)
  case atStart => exact ⟨0, Nat.zero_le _, rfl, HI0⟩
  case round =>
   obtain ⟨i, hi, rfl, HI⟩ := hrel
   by_cases hil : i < lc.length
   · rcases HI.out.c with h0 | ⟨g, c, cur, hv, hbg, hblk, hcells⟩
     · omega
     · injection hv with hv1 hv2 hv3
       subst hv1
       clear hv2 hv3
       obtain ⟨z, hz⟩ := hcells i hil
       have hx0 : wr.cell? ⟨g, i, none⟩ = some (.int .u8 z) := (blk_cell hblk i).trans hz
       have hxf : wr.frozen? ⟨g, i, none⟩ = false := blk_frozen hblk i
       have HN := Aside0.mk (fun z' => HI.out.put hblk hbg i z')
       clear hcells hblk hbg hz
       go_wp2
       go_roundw
       case rel => exact ⟨i + 1, by omega, by go_num, ⟨HN.out _⟩⟩
       case measure => simp [intOf]; omega
   · obtain rfl : i = lc.length := by omega
     go_wp2
     go_loopw [154] (fun v_ wr => ∃ i : Nat, i ≤ la.length ∧ v_ = .int .i64 i ∧ Aside0 (Inv14 w5 (.slice Ac lc.length cc) lc.length (.slice Aa la.length ca) la.length (.slice Ap lp.length cp) lp.length wr)) (fun v_ _ => la.length - (intOf v_).toNat)
     case atStart => exact ⟨0, Nat.zero_le _, rfl, HI⟩
     case round =>
      obtain ⟨i, hi, rfl, HI⟩ := hrel
      by_cases hil : i < la.length
      · rcases HI.out.a with h0 | ⟨g, c, cur, hv, hblk, hcells⟩
        · omega
        · injection hv with hv1 hv2 hv3
          subst hv1
          clear hv2 hv3
          obtain ⟨A1_, n1_, c1_, A2_, n2_, c2_, q1_, q2_, m1_, m2_, b1_, b2_⟩ := hcells i hil
          have hcl : wr.cell? ⟨g, i * 4 + 2, none⟩ = some (.slice A2_ n2_ c2_) := (blk_cell hblk _).trans q2_
          have HQ := Aside0.mk (q2_)
          have HBK := Aside0.mk hblk
          have HBY := Aside0.mk b2_
          clear hcells q1_ q2_ b1_ b2_ hblk
          go_wp2
          go_loopw [163] (fun v_ wr2 => ∃ j : Nat, j ≤ n2_ ∧ v_ = .int .i64 j ∧ Aside0 (Inv14 w5 (.slice Ac lc.length cc) lc.length (.slice (some ⟨g, 0, none⟩) la.length ca) la.length (.slice Ap lp.length cp) lp.length wr2) ∧ Aside0 (wr2.heap[g]? = some (.cells cur 26 (0, 0))) ∧ Aside0 (Byt wr2 w5.heap.size (.slice A2_ n2_ c2_) n2_)) (fun v_ _ => n2_ - (intOf v_).toNat)
          case atStart => exact ⟨0, Nat.zero_le _, rfl, HI, HBK, HBY⟩
          case round =>
           obtain ⟨j, hj, rfl, HJ, HBK2, HBY2⟩ := hrel
           by_cases hjl : j < n2_
           · rcases HBY2.out with h0 | ⟨gx, cx, curx, hvx, hbx, hblx, hcx⟩
             · omega
             · injection hvx with hvx1 hvx2 hvx3
               subst hvx1
               clear hvx2 hvx3
               obtain ⟨z, hz⟩ := hcx j hjl
               have hcl2 : wr.cell? ⟨g, i * 4 + 2, none⟩ = some (.slice (some ⟨gx, 0, none⟩) n2_ c2_) := (blk_cell HBK2.out _).trans HQ.out
               have hx0 : wr.cell? ⟨gx, j, none⟩ = some (.int .u8 z) := (blk_cell hblx j).trans hz
               have hxf : wr.frozen? ⟨gx, j, none⟩ = false := blk_frozen hblx j
               have HN := Aside0.mk (fun z' => HJ.out.put hblx hbx j z')
               have HN2 := Aside0.mk (fun z' : Int => blk_far (p := ⟨gx, j, none⟩) HBK2.out (blk_ne HBK2.out hblx (by decide)) (.int .u8 z'))
               have HN3 := Aside0.mk (fun z' => HBY2.out.put hblx j z')
               clear hcx hblx hbx hz
               go_wp2
               go_roundw
               case rel => exact ⟨j + 1, by omega, by go_num, ⟨HN.out _⟩, ⟨HN2.out _⟩, ⟨HN3.out _⟩⟩
               case measure => simp [intOf]; omega
           · obtain rfl : j = n2_ := by omega
             go_wp2
             go_roundw
             case rel => exact ⟨i + 1, by omega, by go_num, HJ⟩
             case measure => simp [intOf]; omega
      · obtain rfl : i = la.length := by omega
        go_wp2
        go_loopw [180] (fun v_ wr => ∃ i : Nat, i ≤ lp.length ∧ v_ = .int .i64 i ∧ Aside0 (Inv14 w5 (.slice Ac lc.length cc) lc.length (.slice Aa la.length ca) la.length (.slice Ap lp.length cp) lp.length wr)) (fun v_ _ => lp.length - (intOf v_).toNat)
        case atStart => exact ⟨0, Nat.zero_le _, rfl, HI⟩
        case round =>
         obtain ⟨i, hi, rfl, HI⟩ := hrel
         by_cases hil : i < lp.length
         · rcases HI.out.p with h0 | ⟨g, c, cur, hv, hblk, hcells⟩
           · omega
           · injection hv with hv1 hv2 hv3
             subst hv1
             clear hv2 hv3
             obtain ⟨A1_, n1_, c1_, A2_, n2_, c2_, q1_, q2_, m1_, m2_, b1_, b2_⟩ := hcells i hil
             have hcl : wr.cell? ⟨g, i * 4 + 1, none⟩ = some (.slice A1_ n1_ c1_) := (blk_cell hblk _).trans q1_
             have HQ := Aside0.mk (q1_)
             have HBK := Aside0.mk hblk
             have HBY := Aside0.mk b1_
             clear hcells q1_ q2_ b1_ b2_ hblk
             go_wp2
             go_loopw [189] (fun v_ wr2 => ∃ j : Nat, j ≤ n1_ ∧ v_ = .int .i64 j ∧ Aside0 (Inv14 w5 (.slice Ac lc.length cc) lc.length (.slice Aa la.length ca) la.length (.slice (some ⟨g, 0, none⟩) lp.length cp) lp.length wr2) ∧ Aside0 (wr2.heap[g]? = some (.cells cur 26 (0, 0))) ∧ Aside0 (Byt wr2 w5.heap.size (.slice A1_ n1_ c1_) n1_)) (fun v_ _ => n1_ - (intOf v_).toNat)
             case atStart => exact ⟨0, Nat.zero_le _, rfl, HI, HBK, HBY⟩
             case round =>
              obtain ⟨j, hj, rfl, HJ, HBK2, HBY2⟩ := hrel
              by_cases hjl : j < n1_
              · rcases HBY2.out with h0 | ⟨gx, cx, curx, hvx, hbx, hblx, hcx⟩
                · omega
                · injection hvx with hvx1 hvx2 hvx3
                  subst hvx1
                  clear hvx2 hvx3
                  obtain ⟨z, hz⟩ := hcx j hjl
                  have hcl2 : wr.cell? ⟨g, i * 4 + 1, none⟩ = some (.slice (some ⟨gx, 0, none⟩) n1_ c1_) := (blk_cell HBK2.out _).trans HQ.out
                  have hx0 : wr.cell? ⟨gx, j, none⟩ = some (.int .u8 z) := (blk_cell hblx j).trans hz
                  have hxf : wr.frozen? ⟨gx, j, none⟩ = false := blk_frozen hblx j
                  have HN := Aside0.mk (fun z' => HJ.out.put hblx hbx j z')
                  have HN2 := Aside0.mk (fun z' : Int => blk_far (p := ⟨gx, j, none⟩) HBK2.out (blk_ne HBK2.out hblx (by decide)) (.int .u8 z'))
                  have HN3 := Aside0.mk (fun z' => HBY2.out.put hblx j z')
                  clear hcx hblx hbx hz
                  go_wp2
                  go_roundw
                  case rel => exact ⟨j + 1, by omega, by go_num, ⟨HN.out _⟩, ⟨HN2.out _⟩, ⟨HN3.out _⟩⟩
                  case measure => simp [intOf]; omega
              · obtain rfl : j = n1_ := by omega
                go_wp2
                go_roundw
                case rel => exact ⟨i + 1, by omega, by go_num, HJ⟩
                case measure => simp [intOf]; omega
         · obtain rfl : i = lp.length := by omega
           have HBF := Aside0.mk (below_then HB5.out HB5.out.size HI.out.bel)
           go_wp2_with (go_at_call 19; refine (damsonref14_Same.calls k A0 c0 l0 Aw cw lw tz _ (Kd.C_below HR0.out HBF.out) HC0.out (Kd.C_below HOw.out.2.2 HI.out.bel) HOw.out.2.1 HFz.out).mono ?_; rintro e wz ⟨rfl, hd⟩; have HBG := Aside0.mk (below_then HBF.out HBF.out.size hd); clear hd)
           go_ret
           exact ⟨rfl, HBG.out⟩


/-- THE ONE PURE STATEMENT of damsonlaw14_IdemDoes: yours. -/
def damsonlaw14_IdemDoes.Pure : Prop := ∀ (l0 : List (S26)) (l1 : List (S26)) (s2 : S26) (a3 : Int) (l4 : List Int) (a5 : Int), (l0.length ≤ 9223372036854775807 ∧ ∀ y_ ∈ l0, G26 y_) → (l1.length ≤ 9223372036854775807 ∧ ∀ y_ ∈ l1, G26 y_) → G26 s2 → (Lit.int .u64 a3).wf = true → (l4.length ≤ 9223372036854775807 ∧ ∀ y_ ∈ l4, (Lit.int .u8 y_).wf = true) → (Lit.int .u64 a5).wf = true → ∃ k, damsonlaw14_IdemDoes.f k l0 l1 (s2.f0) (s2.f1) (s2.f2) (s2.f3) a3 l4 a5 = some true
theorem damsonlaw14_IdemDoes.walk (P : damsonlaw14_IdemDoes.Pure) (w : World) (l0 : List (S26)) (A0 : Option Addr) (c0 : Nat) (hr0 : Kd.C k26 w A0 l0.length l0) (hc0 : l0.length ≤ c0) (g0 : l0.length ≤ 9223372036854775807 ∧ ∀ y_ ∈ l0, G26 y_) (l1 : List (S26)) (A1 : Option Addr) (c1 : Nat) (hr1 : Kd.C k26 w A1 l1.length l1) (hc1 : l1.length ≤ c1) (g1 : l1.length ≤ 9223372036854775807 ∧ ∀ y_ ∈ l1, G26 y_) (s2 : S26) (A2_1 : Option Addr) (c2_1 : Nat) (hr2_1 : Kd.C (Kd.int .u8) w A2_1 (s2.f1).length (s2.f1)) (hc2_1 : (s2.f1).length ≤ c2_1) (A2_2 : Option Addr) (c2_2 : Nat) (hr2_2 : Kd.C (Kd.int .u8) w A2_2 (s2.f2).length (s2.f2)) (hc2_2 : (s2.f2).length ≤ c2_2) (g2 : G26 s2) (a3 : Int) (g3 : (Lit.int .u64 a3).wf = true) (l4 : List Int) (A4 : Option Addr) (c4 : Nat) (hr4 : Kd.C (Kd.int .u8) w A4 l4.length l4) (hc4 : l4.length ≤ c4) (g4 : l4.length ≤ 9223372036854775807 ∧ ∀ y_ ∈ l4, (Lit.int .u8 y_).wf = true) (a5 : Int) (g5 : (Lit.int .u64 a5).wf = true) :
    Calls Try.prog 5 #[.slice A0 l0.length c0, .slice A1 l1.length c1, .agg #[.int .u64 (s2.f0), .slice A2_1 (s2.f1).length c2_1, .slice A2_2 (s2.f2).length c2_2, .int .u64 (s2.f3)], .int .u64 a3, .slice A4 l4.length c4, .int .u64 a5] w fun e w' => e = .returned (.bool true) ∧ Below w.heap.size w w' := by
  obtain ⟨k, h⟩ := P l0 l1 s2 a3 l4 a5 g0 g1 g2 g3 g4 g5
  refine (damsonlaw14_IdemDoes.calls k A0 c0 l0 A1 c1 l1 (s2.f0) A2_1 c2_1 (s2.f1) A2_2 c2_2 (s2.f2) (s2.f3) a3 A4 c4 l4 a5 true w hr0 hc0 hr1 hc1 hr2_1 hc2_1 hr2_2 hc2_2 hr4 hc4 h).mono ?_
  rintro e w' ⟨rfl, hd⟩
  exact ⟨rfl, hd⟩
end Go.Proofs.Ytmoncgfffdddeaa.P
