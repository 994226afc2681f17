-- written by a program of this session (wip/print)
import Derived.Test.YtmoncgfffdddeaaQIFirstx0
import Derived.Test.YtmoncgfffdddeaaQIFirstx2
import Derived.Test.YtmoncgfffdddeaaQIFirstx3
import Derived.Test.YtmoncgfffdddeaaQIFirstx4
namespace Go.Proofs.Ytmoncgfffdddeaa.P
open Go.RowKit Go.Proofs.YtmoncgfffdddeaaW.PrintWords Go.Proofs.YtmoncgfffdddeaaW.PrintLast Go.Proofs.YtmoncgfffdddeaaW.PrintMore
attribute [local go_sem] max2_int min2_int max_two min_two max_three min_three max_four min_four   -- for this text's walks alone
set_option linter.unusedVariables false
set_option linter.unusedSimpArgs false

/-! ### damsonlaw14_IdemFirst: function 3 (by hand) -/
def damsonlaw14_IdemFirst.long (y : S26) : Bool := decide (4096 < y.f1.length) || decide (4096 < y.f2.length)
def damsonlaw14_IdemFirst.sw (k : Nat) (m : List S26) (t : Int) (a : List S26 × Int) : Option (List S26) := if a.2 = 0 then some a.1 else (idem_Sweep.f k m t).bind fun b => if b.2 = 0 then some b.1 else none
def damsonlaw14_IdemFirst.lk (k : Nat) (m : List S26) (x0 : Int) (x1 x2 p : List Int) (t : Int) : Option (List S26) :=
  (idem_Look.f k m x0 x1 t).bind fun r => (idem_Look.f k m x0 p t).bind fun s => (damsonref01_SameBytes.f r.1 x2).bind fun s1 => (damsonref01_SameBytes.f p x1).bind fun s2 =>
  if r.2 = 0 ∧ s1 = true ∧ (s.2 == 0) = s2 ∧ (s.2 = 0 ∨ s.2 = 12 ∧ s.1.length = 0) then some m else none
def damsonlaw14_IdemFirst.rounds (k : Nat) (x0 : Int) (x1 x2 : List Int) (x3 : Int) (p : List Int) : List (S26 × Int) → List S26 → Option Bool
  | [], _ => some true
  | z :: zs, m => if z.2 > x3 then some true else
    (idem_Put.f k m z.1.f0 z.1.f1 z.1.f2 z.1.f3 z.2).bind fun a =>
    if z.1.f0 = x0 ∧ a.2 ≠ (if damsonlaw14_IdemFirst.long z.1 = true then 1 else 6) then none else
    (damsonlaw14_IdemFirst.sw k m z.2 a).bind fun m' => (damsonlaw14_IdemFirst.lk k m' x0 x1 x2 p z.2).bind fun m2 => damsonlaw14_IdemFirst.rounds k x0 x1 x2 x3 p zs m2
def damsonlaw14_IdemFirst.b (k : Nat) (l0 : List (S26)) (a1_0 : Int) (l1_1 l1_2 : List Int) (a1_3 : Int) (a2 : Int) (l3 : List (S26)) (l4 l5 : List Int) : Option (Bool) :=
  (idem_Put.f k l0 a1_0 l1_1 l1_2 a1_3 a2).bind fun a => if a.2 = 0 then damsonlaw14_IdemFirst.rounds k a1_0 l1_1 l1_2 a1_3 l5 (l3.zip l4) a.1 else if a.1.length = 0 then some true else none
def damsonlaw14_IdemFirst.f (k : Nat) (l0 : List (S26)) (a1_0 : Int) (l1_1 l1_2 : List Int) (a1_3 : Int) (a2 : Int) (l3 : List (S26)) (l4 l5 : List Int) : Option (Bool) := (damsonlaw14_live.f k).bind fun t1 => (if t1 = true then ((damsonref14_Few.f k l0).bind fun t2 => (if t2 = true then ((damsonlaw14_short.f k [l1_1, l1_2, l5]).bind fun t3 => (if t3 = true then ((damsonref14_Few.f k l3).bind fun t4 => (if t4 = true then (if 20 < l3.length then some true else damsonlaw14_IdemFirst.b k l0 a1_0 l1_1 l1_2 a1_3 a2 l3 l4 l5) else (some true))) else (some true))) else (some true))) else none)
theorem damsonlaw14_IdemFirst.mono_r (k : Nat) (x0 : Int) (x1 x2 : List Int) (x3 : Int) (p : List Int) : ∀ zs m, LeO (damsonlaw14_IdemFirst.rounds k x0 x1 x2 x3 p zs m) (damsonlaw14_IdemFirst.rounds (k + 1) x0 x1 x2 x3 p zs m)
  | [], _ => LeO.refl _
  | z :: zs, m => by
    have ih := damsonlaw14_IdemFirst.mono_r k x0 x1 x2 x3 p zs
    unfold damsonlaw14_IdemFirst.rounds damsonlaw14_IdemFirst.sw damsonlaw14_IdemFirst.lk
    repeat' first
      | (with_reducible exact LeO.refl _)
      | (with_reducible exact ih _)
      | apply idem_Put.mono
      | apply idem_Look.mono
      | apply idem_Sweep.mono
      | (with_reducible refine LeO.ite ?_ ?_)
      | (with_reducible refine LeO.bind ?_ (fun _ => ?_))
theorem damsonlaw14_IdemFirst.mono : ∀ a0 a1 a2 a3 a4 a5 a6 a7 a8 k, LeO (damsonlaw14_IdemFirst.f k a0 a1 a2 a3 a4 a5 a6 a7 a8) (damsonlaw14_IdemFirst.f (k + 1) a0 a1 a2 a3 a4 a5 a6 a7 a8) := by
  intro a0 a1 a2 a3 a4 a5 a6 a7 a8 k
  unfold damsonlaw14_IdemFirst.f damsonlaw14_IdemFirst.b
  repeat' first
    | (with_reducible exact LeO.refl _)
    | apply damsonlaw14_live.mono
    | apply damsonref14_Few.mono
    | apply damsonlaw14_short.mono
    | apply idem_Put.mono
    | apply damsonlaw14_IdemFirst.mono_r
    | (with_reducible refine LeO.ite ?_ ?_)
    | (with_reducible refine LeO.bind ?_ (fun _ => ?_))
theorem zip_drop26 {l : List S26} {m : List Int} {i : Nat} (h : i < l.length) (g : i < m.length) : (l.zip m).drop i = (rd_T26 l (i : Int), rd m (i : Int)) :: (l.zip m).drop (i + 1) := by
  rw [List.drop_eq_getElem_cons (by rw [List.length_zip]; omega), List.getElem_zip]
  simp only [rd_T26, rd, Int.toNat_natCast, List.getD_eq_getElem?_getD, List.getElem?_eq_getElem h, List.getElem?_eq_getElem g, Option.getD_some]
theorem three_C (w : World) {A1 A2 A3 : Option Addr} {d1 d2 d3 : Nat} {x1 x2 x3 : List Int} (h1 : Kd.C (Kd.int .u8) w A1 x1.length x1) (g1 : x1.length ≤ d1) (h2 : Kd.C (Kd.int .u8) w A2 x2.length x2) (g2 : x2.length ≤ d2) (h3 : Kd.C (Kd.int .u8) w A3 x3.length x3) (g3 : x3.length ≤ d3) :
    Kd.C (Kd.slice 5 (Kd.int .u8)) (w.alloc (.cells #[.slice A1 x1.length d1, .slice A2 x2.length d2, .slice A3 x3.length d3] 24)) (some ⟨w.heap.size, 0, none⟩) 3 [x1, x2, x3] := by
  have hb := (Below.refl w.heap.size w).alloc (Nat.le_refl _) (.cells #[.slice A1 x1.length d1, .slice A2 x2.length d2, .slice A3 x3.length d3] 24)
  have hcell : ∀ j, (w.alloc (.cells #[.slice A1 x1.length d1, .slice A2 x2.length d2, .slice A3 x3.length d3] 24)).cell? ⟨w.heap.size, j, none⟩ = (#[.slice A1 x1.length d1, .slice A2 x2.length d2, .slice A3 x3.length d3] : Array Value)[j]? := fun j => blk_cell (blk_new w _) j
  refine ⟨rfl, by decide, fun _ => ⟨_, rfl, fun j p hj => ?_⟩⟩
  have key : ∀ (A : Option Addr) (d : Nat) (x : List Int) (j : Nat), Kd.C (Kd.int .u8) w A x.length x → x.length ≤ d → (#[.slice A1 x1.length d1, .slice A2 x2.length d2, .slice A3 x3.length d3] : Array Value)[j]? = some (.slice A x.length d) → ∃ c : List Value, c.length = (Kd.slice 5 (Kd.int .u8)).sz ∧ (Kd.slice 5 (Kd.int .u8)).K (w.alloc (.cells #[.slice A1 x1.length d1, .slice A2 x2.length d2, .slice A3 x3.length d3] 24)) x c ∧ ∀ i u, c[i]? = some u → (w.alloc (.cells #[.slice A1 x1.length d1, .slice A2 x2.length d2, .slice A3 x3.length d3] 24)).cell? ((⟨w.heap.size, 0, none⟩ : Addr).add (j * (Kd.slice 5 (Kd.int .u8)).sz + i)) = some u := by
    intro A d x j h g hs
    refine ⟨[.slice A x.length d], rfl, ⟨A, d, rfl, g, Kd.C_below h hb⟩, fun i u hi => ?_⟩
    cases i with
    | zero =>
      have e : (Value.slice A x.length d) = u := by simpa using hi
      subst e
      rw [add_plain, hcell]
      have : j * (Kd.slice 5 (Kd.int .u8)).sz + 0 = j := by show j * 1 + 0 = j; omega
      rw [this]; exact hs
    | succ i => simp at hi
  match j with
  | 0 => obtain rfl : x1 = p := by simpa using hj
         exact key A1 d1 x1 0 h1 g1 rfl
  | 1 => obtain rfl : x2 = p := by simpa using hj
         exact key A2 d2 x2 1 h2 g2 rfl
  | 2 => obtain rfl : x3 = p := by simpa using hj
         exact key A3 d3 x3 2 h3 g3 rfl
  | j + 3 => simp at hj
def damsonlaw14_IdemFirst.T11 : Bool × List (List Nat × List Nat) := (true, [([], []), ([], []), ([1], [1]), ([0, 2], [0, 2]), ([3], [3]), ([4], [4]), ([4], [4]), ([5, 6, 4], [4, 5, 6]), ([7, 4], [4, 7]), ([4], [4]), ([9, 4], [4, 9]), ([8, 10, 4], [4, 8, 10]), ([4, 11], [4, 11])])
def damsonlaw14_IdemFirst.B11 : List Nat := [0, 0, 2, 7, 15, 31, 31, 127, 255, 31, 543, 2047, 4095]
theorem damsonlaw14_IdemFirst.tab11 : rtab .any (opsOf Try.f3 11) = damsonlaw14_IdemFirst.T11 := by kernel_rfl
theorem damsonlaw14_IdemFirst.bits11 : waitsOk damsonlaw14_IdemFirst.T11.2 damsonlaw14_IdemFirst.B11 = true := by kernel_rfl
def damsonlaw14_IdemFirst.T12 : Bool × List (List Nat × List Nat) := (true, [([], []), ([], []), ([], []), ([], []), ([2, 3], [2, 3]), ([4], [4]), ([0, 1, 5], [0, 1, 5]), ([6], [6]), ([7], [7]), ([7], [7]), ([8, 6, 0, 1, 2, 3, 4, 5, 6, 7, 8], [8]), ([9, 10, 0, 1, 2, 3, 4, 5, 6, 7, 8, 9, 10], [9])])
def damsonlaw14_IdemFirst.B12 : List Nat := [0, 0, 0, 0, 12, 28, 63, 127, 255, 255, 511, 2047]
theorem damsonlaw14_IdemFirst.tab12 : rtab .any (opsOf Try.f3 12) = damsonlaw14_IdemFirst.T12 := by kernel_rfl
theorem damsonlaw14_IdemFirst.bits12 : waitsOk damsonlaw14_IdemFirst.T12.2 damsonlaw14_IdemFirst.B12 = true := by kernel_rfl
def damsonlaw14_IdemFirst.T20 : Bool × List (List Nat × List Nat) := (true, [([], []), ([], []), ([1], [1]), ([], []), ([3], [3]), ([], []), ([], []), ([5, 6], [5, 6]), ([7], [7]), ([0, 2, 4, 8], [0, 2, 4, 8]), ([9], [9]), ([10], [10]), ([10], [10]), ([11, 9, 0, 1, 2, 3, 4, 5, 6, 7, 8, 9, 10, 11], [11]), ([12, 13, 0, 1, 2, 3, 4, 5, 6, 7, 8, 9, 10, 11, 12, 13], [12])])
def damsonlaw14_IdemFirst.B20 : List Nat := [0, 0, 2, 0, 8, 0, 0, 96, 224, 511, 1023, 2047, 2047, 4095, 16383]
theorem damsonlaw14_IdemFirst.tab20 : rtab .any (opsOf Try.f3 20) = damsonlaw14_IdemFirst.T20 := by kernel_rfl
theorem damsonlaw14_IdemFirst.bits20 : waitsOk damsonlaw14_IdemFirst.T20.2 damsonlaw14_IdemFirst.B20 = true := by kernel_rfl
def damsonlaw14_IdemFirst.T21 : Bool × List (List Nat × List Nat) := (true, [([], []), ([], []), ([1], [1]), ([], []), ([], []), ([], []), ([4, 5], [4, 5]), ([6], [6]), ([0, 2, 3, 7], [0, 2, 3, 7]), ([8], [8]), ([9], [9]), ([9], [9]), ([10, 8, 0, 1, 2, 3, 4, 5, 6, 7, 8, 9, 10], [10]), ([11, 12, 0, 1, 2, 3, 4, 5, 6, 7, 8, 9, 10, 11, 12], [11])])
def damsonlaw14_IdemFirst.B21 : List Nat := [0, 0, 2, 0, 0, 0, 48, 112, 255, 511, 1023, 1023, 2047, 8191]
theorem damsonlaw14_IdemFirst.tab21 : rtab .any (opsOf Try.f3 21) = damsonlaw14_IdemFirst.T21 := by kernel_rfl
theorem damsonlaw14_IdemFirst.bits21 : waitsOk damsonlaw14_IdemFirst.T21.2 damsonlaw14_IdemFirst.B21 = true := by kernel_rfl
set_option maxHeartbeats 16000000 in
set_option maxRecDepth 100000 in
theorem damsonlaw14_IdemFirst.calls (k : Nat) (A0 : Option Addr) (c0 : Nat) (l0 : List (S26)) (a1_0 : Int) (A1_1 : Option Addr) (c1_1 : Nat) (l1_1 : List Int) (A1_2 : Option Addr) (c1_2 : Nat) (l1_2 : List Int) (a1_3 : Int) (a2 : Int) (A3 : Option Addr) (c3 : Nat) (l3 : List (S26)) (A4 : Option Addr) (c4 : Nat) (l4 : List Int) (A5 : Option Addr) (c5 : Nat) (l5 : List Int) (r : Bool) (w : World) (hr0 : Kd.C k26 w A0 l0.length l0) (hc0 : l0.length ≤ c0) (hr1_1 : Kd.C (Kd.int .u8) w A1_1 l1_1.length l1_1) (hc1_1 : l1_1.length ≤ c1_1) (hr1_2 : Kd.C (Kd.int .u8) w A1_2 l1_2.length l1_2) (hc1_2 : l1_2.length ≤ c1_2) (hr3 : Kd.C k26 w A3 l3.length l3) (hc3 : l3.length ≤ c3) (hr4 : Kd.C (Kd.int .u64) w A4 l4.length l4) (hc4 : l4.length ≤ c4) (hr5 : Kd.C (Kd.int .u8) w A5 l5.length l5) (hc5 : l5.length ≤ c5) (h : damsonlaw14_IdemFirst.f k l0 a1_0 l1_1 l1_2 a1_3 a2 l3 l4 l5 = some r) :
    Calls Try.prog 3 #[.slice A0 l0.length c0, .agg #[.int .u64 a1_0, .slice A1_1 l1_1.length c1_1, .slice A1_2 l1_2.length c1_2, .int .u64 a1_3], .int .u64 a2, .slice A3 l3.length c3, .slice A4 l4.length c4, .slice A5 l5.length c5] w fun e w' => e = .returned (.bool r) ∧ Below w.heap.size w w' := by
  have HR0 := Aside0.mk hr0
  have HC0 := Aside0.mk hc0
  have HR1_1 := Aside0.mk hr1_1
  have HC1_1 := Aside0.mk hc1_1
  have HR1_2 := Aside0.mk hr1_2
  have HC1_2 := Aside0.mk hc1_2
  have HR3 := Aside0.mk hr3
  have HC3 := Aside0.mk hc3
  have HR4 := Aside0.mk hr4
  have HC4 := Aside0.mk hc4
  have HR5 := Aside0.mk hr5
  have HC5 := Aside0.mk hc5
  clear hr0 hc0 hr1_1 hc1_1 hr1_2 hc1_2 hr3 hc3 hr4 hc4 hr5 hc5
  have HB := Aside0.mk ((Below.refl w.heap.size w).alloc (Nat.le_refl _) (.cells #[.int .u64 a1_0, .slice A1_1 l1_1.length c1_1, .slice A1_2 l1_2.length c1_2, .int .u64 a1_3] 26))
  have HK := Aside0.mk (blk_new w (.cells #[.int .u64 a1_0, .slice A1_1 l1_1.length c1_1, .slice A1_2 l1_2.length c1_2, .int .u64 a1_3] 26))
  obtain ⟨t1, h1, h⟩ := Option.bind_eq_some_iff.mp h
  have HL := Aside0.mk h1
  clear h1
  cases t1 with
  | false =>
    rw [if_neg (by decide)] at h
    cases h
  | true =>
  rw [if_pos rfl] at h
  obtain ⟨t2, h1, h⟩ := Option.bind_eq_some_iff.mp h
  have HF0 := Aside0.mk h1
  clear h1
  cases t2 with
  | false =>
    rw [if_neg (by decide)] at h
    injection h with h
    subst h
    go_enter Try.func3, Try.ntmps3
    go_wp2_with (first | (go_at_call 8; refine (damsonlaw14_live.calls k _ _ HL.out).mono ?_; rintro e w1 ⟨rfl, hb⟩; clear HL; replace HB := Aside0.mk (below_then HB.out HB.out.size hb); replace HK := Aside0.mk (blk_below HK.out hb); clear hb) | (go_at_call 9; refine (damsonref14_Few.calls k A0 c0 l0 _ _ (Kd.C_below HR0.out HB.out) HC0.out HF0.out).mono ?_; rintro e w2 ⟨rfl, hb⟩; clear HF0; replace HB := Aside0.mk (below_then HB.out HB.out.size hb); replace HK := Aside0.mk (blk_below HK.out hb); obtain ⟨hz0, hz1, hz2, hz3, hz4, hz5, hz6, hz7⟩ := cz4_ HK.out; clear hb))
    go_ret
    exact ⟨rfl, HB.out⟩
  | true =>
  rw [if_pos rfl] at h
  obtain ⟨t3, h1, h⟩ := Option.bind_eq_some_iff.mp h
  have HFs := Aside0.mk h1
  clear h1
  cases t3 with
  | false =>
    rw [if_neg (by decide)] at h
    injection h with h
    subst h
    go_enter Try.func3, Try.ntmps3
    go_wp2_with (first | (go_at_call 8; refine (damsonlaw14_live.calls k _ _ HL.out).mono ?_; rintro e w1 ⟨rfl, hb⟩; clear HL; replace HB := Aside0.mk (below_then HB.out HB.out.size hb); replace HK := Aside0.mk (blk_below HK.out hb); clear hb) | (go_at_call 9; refine (damsonref14_Few.calls k A0 c0 l0 _ _ (Kd.C_below HR0.out HB.out) HC0.out HF0.out).mono ?_; rintro e w2 ⟨rfl, hb⟩; clear HF0; replace HB := Aside0.mk (below_then HB.out HB.out.size hb); replace HK := Aside0.mk (blk_below HK.out hb); obtain ⟨hz0, hz1, hz2, hz3, hz4, hz5, hz6, hz7⟩ := cz4_ HK.out; clear hb) | (go_at_call 10; refine (damsonlaw14_short.calls k (some ⟨w2.heap.size, 0, none⟩) 3 [l1_1, l1_2, l5] _ _ (three_C w2 (Kd.C_below HR1_1.out HB.out) HC1_1.out (Kd.C_below HR1_2.out HB.out) HC1_2.out (Kd.C_below HR5.out HB.out) HC5.out) (Nat.le_refl _) HFs.out).mono ?_; rintro e w3 ⟨rfl, hd⟩; clear HFs; have hb := ((Below.refl w2.heap.size w2).alloc (Nat.le_refl _) (.cells #[.slice A1_1 l1_1.length c1_1, .slice A1_2 l1_2.length c1_2, .slice A5 l5.length c5] 24)).trans (hd.below.mono (by simp)); replace HB := Aside0.mk (below_then HB.out HB.out.size hb); replace HK := Aside0.mk (blk_below HK.out hb); clear hz0 hz1 hz2 hz3 hz4 hz5 hz6 hz7; clear hb hd))
    go_ret
    exact ⟨rfl, HB.out⟩
  | true =>
  rw [if_pos rfl] at h
  obtain ⟨t4, h1, h⟩ := Option.bind_eq_some_iff.mp h
  have HF3 := Aside0.mk h1
  clear h1
  cases t4 with
  | false =>
    rw [if_neg (by decide)] at h
    injection h with h
    subst h
    go_enter Try.func3, Try.ntmps3
    go_wp2_with (first | (go_at_call 8; refine (damsonlaw14_live.calls k _ _ HL.out).mono ?_; rintro e w1 ⟨rfl, hb⟩; clear HL; replace HB := Aside0.mk (below_then HB.out HB.out.size hb); replace HK := Aside0.mk (blk_below HK.out hb); clear hb) | (go_at_call 9; refine (damsonref14_Few.calls k A0 c0 l0 _ _ (Kd.C_below HR0.out HB.out) HC0.out HF0.out).mono ?_; rintro e w2 ⟨rfl, hb⟩; clear HF0; replace HB := Aside0.mk (below_then HB.out HB.out.size hb); replace HK := Aside0.mk (blk_below HK.out hb); obtain ⟨hz0, hz1, hz2, hz3, hz4, hz5, hz6, hz7⟩ := cz4_ HK.out; clear hb) | (go_at_call 10; refine (damsonlaw14_short.calls k (some ⟨w2.heap.size, 0, none⟩) 3 [l1_1, l1_2, l5] _ _ (three_C w2 (Kd.C_below HR1_1.out HB.out) HC1_1.out (Kd.C_below HR1_2.out HB.out) HC1_2.out (Kd.C_below HR5.out HB.out) HC5.out) (Nat.le_refl _) HFs.out).mono ?_; rintro e w3 ⟨rfl, hd⟩; clear HFs; have hb := ((Below.refl w2.heap.size w2).alloc (Nat.le_refl _) (.cells #[.slice A1_1 l1_1.length c1_1, .slice A1_2 l1_2.length c1_2, .slice A5 l5.length c5] 24)).trans (hd.below.mono (by simp)); replace HB := Aside0.mk (below_then HB.out HB.out.size hb); replace HK := Aside0.mk (blk_below HK.out hb); clear hz0 hz1 hz2 hz3 hz4 hz5 hz6 hz7; clear hb hd) | (go_at_call 9; refine (damsonref14_Few.calls k A3 c3 l3 _ _ (Kd.C_below HR3.out HB.out) HC3.out HF3.out).mono ?_; rintro e w4 ⟨rfl, hb⟩; clear HF3; replace HB := Aside0.mk (below_then HB.out HB.out.size hb); replace HK := Aside0.mk (blk_below HK.out hb); obtain ⟨hz0, hz1, hz2, hz3, hz4, hz5, hz6, hz7⟩ := cz4_ HK.out; clear hb))
    go_ret
    exact ⟨rfl, HB.out⟩
  | true =>
  rw [if_pos rfl] at h
  by_cases h20 : 20 < l3.length
  · rw [if_pos h20] at h
    have h20b : decide ((20 : Int) < (l3.length : Int)) = true := decide_eq_true (by omega)
    clear h20
    injection h with h
    subst h
    go_enter Try.func3, Try.ntmps3
    go_wp2_with (first | (go_at_call 8; refine (damsonlaw14_live.calls k _ _ HL.out).mono ?_; rintro e w1 ⟨rfl, hb⟩; clear HL; replace HB := Aside0.mk (below_then HB.out HB.out.size hb); replace HK := Aside0.mk (blk_below HK.out hb); clear hb) | (go_at_call 9; refine (damsonref14_Few.calls k A0 c0 l0 _ _ (Kd.C_below HR0.out HB.out) HC0.out HF0.out).mono ?_; rintro e w2 ⟨rfl, hb⟩; clear HF0; replace HB := Aside0.mk (below_then HB.out HB.out.size hb); replace HK := Aside0.mk (blk_below HK.out hb); obtain ⟨hz0, hz1, hz2, hz3, hz4, hz5, hz6, hz7⟩ := cz4_ HK.out; clear hb) | (go_at_call 10; refine (damsonlaw14_short.calls k (some ⟨w2.heap.size, 0, none⟩) 3 [l1_1, l1_2, l5] _ _ (three_C w2 (Kd.C_below HR1_1.out HB.out) HC1_1.out (Kd.C_below HR1_2.out HB.out) HC1_2.out (Kd.C_below HR5.out HB.out) HC5.out) (Nat.le_refl _) HFs.out).mono ?_; rintro e w3 ⟨rfl, hd⟩; clear HFs; have hb := ((Below.refl w2.heap.size w2).alloc (Nat.le_refl _) (.cells #[.slice A1_1 l1_1.length c1_1, .slice A1_2 l1_2.length c1_2, .slice A5 l5.length c5] 24)).trans (hd.below.mono (by simp)); replace HB := Aside0.mk (below_then HB.out HB.out.size hb); replace HK := Aside0.mk (blk_below HK.out hb); clear hz0 hz1 hz2 hz3 hz4 hz5 hz6 hz7; clear hb hd) | (go_at_call 9; refine (damsonref14_Few.calls k A3 c3 l3 _ _ (Kd.C_below HR3.out HB.out) HC3.out HF3.out).mono ?_; rintro e w4 ⟨rfl, hb⟩; clear HF3; replace HB := Aside0.mk (below_then HB.out HB.out.size hb); replace HK := Aside0.mk (blk_below HK.out hb); obtain ⟨hz0, hz1, hz2, hz3, hz4, hz5, hz6, hz7⟩ := cz4_ HK.out; clear hb))
    go_ret
    exact ⟨rfl, HB.out⟩
  rw [if_neg h20] at h
  have h20b : decide ((20 : Int) < (l3.length : Int)) = false := decide_eq_false (by omega)
  have hlen : l3.length ≤ 20 := by omega
  clear h20
  unfold damsonlaw14_IdemFirst.b at h
  obtain ⟨⟨la, ea⟩, h1, h⟩ := Option.bind_eq_some_iff.mp h
  have HFa := Aside0.mk h1
  clear h1
  dsimp only at h
  by_cases he : ea = 0
  case neg =>
    rw [if_neg he] at h
    have heb : (ea != 0) = true := bne_iff_ne.mpr he
    clear he
    by_cases hl0 : la.length = 0
    · rw [if_pos hl0] at h
      have hl0b : ((la.length : Int) == 0) = true := by rw [hl0]; rfl
      have hl0n : (la.length == 0) = true := by rw [hl0]; rfl
      clear hl0
      injection h with h
      subst h
      go_enter Try.func3, Try.ntmps3
      go_wp2_with (first | (go_at_call 8; refine (damsonlaw14_live.calls k _ _ HL.out).mono ?_; rintro e w1 ⟨rfl, hb⟩; clear HL; replace HB := Aside0.mk (below_then HB.out HB.out.size hb); replace HK := Aside0.mk (blk_below HK.out hb); clear hb) | (go_at_call 9; refine (damsonref14_Few.calls k A0 c0 l0 _ _ (Kd.C_below HR0.out HB.out) HC0.out HF0.out).mono ?_; rintro e w2 ⟨rfl, hb⟩; clear HF0; replace HB := Aside0.mk (below_then HB.out HB.out.size hb); replace HK := Aside0.mk (blk_below HK.out hb); obtain ⟨hz0, hz1, hz2, hz3, hz4, hz5, hz6, hz7⟩ := cz4_ HK.out; clear hb) | (go_at_call 10; refine (damsonlaw14_short.calls k (some ⟨w2.heap.size, 0, none⟩) 3 [l1_1, l1_2, l5] _ _ (three_C w2 (Kd.C_below HR1_1.out HB.out) HC1_1.out (Kd.C_below HR1_2.out HB.out) HC1_2.out (Kd.C_below HR5.out HB.out) HC5.out) (Nat.le_refl _) HFs.out).mono ?_; rintro e w3 ⟨rfl, hd⟩; clear HFs; have hb := ((Below.refl w2.heap.size w2).alloc (Nat.le_refl _) (.cells #[.slice A1_1 l1_1.length c1_1, .slice A1_2 l1_2.length c1_2, .slice A5 l5.length c5] 24)).trans (hd.below.mono (by simp)); replace HB := Aside0.mk (below_then HB.out HB.out.size hb); replace HK := Aside0.mk (blk_below HK.out hb); clear hz0 hz1 hz2 hz3 hz4 hz5 hz6 hz7; clear hb hd) | (go_at_call 9; refine (damsonref14_Few.calls k A3 c3 l3 _ _ (Kd.C_below HR3.out HB.out) HC3.out HF3.out).mono ?_; rintro e w4 ⟨rfl, hb⟩; clear HF3; replace HB := Aside0.mk (below_then HB.out HB.out.size hb); replace HK := Aside0.mk (blk_below HK.out hb); obtain ⟨hz0, hz1, hz2, hz3, hz4, hz5, hz6, hz7⟩ := cz4_ HK.out; clear hb) | (go_at_call 11; refine (idem_Put.calls k A0 c0 l0 a1_0 A1_1 c1_1 l1_1 A1_2 c1_2 l1_2 a1_3 a2 la ea _ (Kd.C_below HR0.out HB.out) HC0.out (Kd.C_below HR1_1.out HB.out) HC1_1.out (Kd.C_below HR1_2.out HB.out) HC1_2.out HFa.out).mono ?_; rintro e w5 ⟨v, rfl, ho, hb⟩; clear HFa; obtain ⟨Aa, ca, ev⟩ := Kd.S_slice ho; subst ev; have HM := Aside0.mk (Kd.S_reads' ho).2.2; have HL := Aside0.mk (Kd.S_reads' ho).2.1; replace HB := Aside0.mk (below_then HB.out HB.out.size hb); replace HK := Aside0.mk (blk_below HK.out hb); clear hz0 hz1 hz2 hz3 hz4 hz5 hz6 hz7; clear ho hb))
      go_ret
      exact ⟨rfl, HB.out⟩
    · rw [if_neg hl0] at h
      cases h
  subst he
  rw [if_pos rfl] at h
  have hB := Aside0.mk h
  clear h
  go_enter Try.func3, Try.ntmps3
  go_wp2_with (first | (go_at_call 8; refine (damsonlaw14_live.calls k _ _ HL.out).mono ?_; rintro e w1 ⟨rfl, hb⟩; clear HL; replace HB := Aside0.mk (below_then HB.out HB.out.size hb); replace HK := Aside0.mk (blk_below HK.out hb); clear hb) | (go_at_call 9; refine (damsonref14_Few.calls k A0 c0 l0 _ _ (Kd.C_below HR0.out HB.out) HC0.out HF0.out).mono ?_; rintro e w2 ⟨rfl, hb⟩; clear HF0; replace HB := Aside0.mk (below_then HB.out HB.out.size hb); replace HK := Aside0.mk (blk_below HK.out hb); obtain ⟨hz0, hz1, hz2, hz3, hz4, hz5, hz6, hz7⟩ := cz4_ HK.out; clear hb) | (go_at_call 10; refine (damsonlaw14_short.calls k (some ⟨w2.heap.size, 0, none⟩) 3 [l1_1, l1_2, l5] _ _ (three_C w2 (Kd.C_below HR1_1.out HB.out) HC1_1.out (Kd.C_below HR1_2.out HB.out) HC1_2.out (Kd.C_below HR5.out HB.out) HC5.out) (Nat.le_refl _) HFs.out).mono ?_; rintro e w3 ⟨rfl, hd⟩; clear HFs; have hb := ((Below.refl w2.heap.size w2).alloc (Nat.le_refl _) (.cells #[.slice A1_1 l1_1.length c1_1, .slice A1_2 l1_2.length c1_2, .slice A5 l5.length c5] 24)).trans (hd.below.mono (by simp)); replace HB := Aside0.mk (below_then HB.out HB.out.size hb); replace HK := Aside0.mk (blk_below HK.out hb); clear hz0 hz1 hz2 hz3 hz4 hz5 hz6 hz7; clear hb hd) | (go_at_call 9; refine (damsonref14_Few.calls k A3 c3 l3 _ _ (Kd.C_below HR3.out HB.out) HC3.out HF3.out).mono ?_; rintro e w4 ⟨rfl, hb⟩; clear HF3; replace HB := Aside0.mk (below_then HB.out HB.out.size hb); replace HK := Aside0.mk (blk_below HK.out hb); obtain ⟨hz0, hz1, hz2, hz3, hz4, hz5, hz6, hz7⟩ := cz4_ HK.out; clear hb) | (go_at_call 11; refine (idem_Put.calls k A0 c0 l0 a1_0 A1_1 c1_1 l1_1 A1_2 c1_2 l1_2 a1_3 a2 la 0 _ (Kd.C_below HR0.out HB.out) HC0.out (Kd.C_below HR1_1.out HB.out) HC1_1.out (Kd.C_below HR1_2.out HB.out) HC1_2.out HFa.out).mono ?_; rintro e w5 ⟨v, rfl, ho, hb⟩; clear HFa; obtain ⟨Aa, ca, ev⟩ := Kd.S_slice ho; subst ev; have HM := Aside0.mk (Kd.S_reads' ho).2.2; have HL := Aside0.mk (Kd.S_reads' ho).2.1; replace HB := Aside0.mk (below_then HB.out HB.out.size hb); replace HK := Aside0.mk (blk_below HK.out hb); clear hz0 hz1 hz2 hz3 hz4 hz5 hz6 hz7; clear ho hb))
  have hw0 : w.heap.size < w5.heap.size := blk_lt HK.out
  clear hw0
  go_loopw [13, 63] (fun vm vi wr => ∃ (i : Nat) (m : List S26) (Am : Option Addr) (cm : Nat), i ≤ l3.length ∧ vi = .int .i64 i ∧ vm = .slice Am m.length cm ∧ Aside0 (m.length ≤ cm) ∧ Aside0 (Kd.C k26 wr Am m.length m) ∧ Aside0 (Below w.heap.size w wr) ∧ Aside0 (wr.heap[w.heap.size]? = some (.cells #[.int .u64 a1_0, .slice A1_1 l1_1.length c1_1, .slice A1_2 l1_2.length c1_2, .int .u64 a1_3] 26 (0, 0))) ∧ Aside0 (damsonlaw14_IdemFirst.rounds k a1_0 l1_1 l1_2 a1_3 l5 ((l3.zip l4).drop i) m = some r)) (fun _ vi _ => l3.length - (intOf vi).toNat)
  case atStart => exact ⟨0, la, Aa, ca, Nat.zero_le _, rfl, rfl, HL, HM, HB, HK, ⟨by rw [List.drop_zero]; exact hB.out⟩⟩
  case round =>
   clear HL HM HB HK hB
   obtain ⟨i, m, Am, cm, hi, rfl, rfl, HL, HM, HB, HK, HR⟩ := hrel
   by_cases hil : i < l3.length
   case neg =>
    obtain rfl : i = l3.length := by omega
    have h := HR.out
    rw [List.drop_of_length_le (by rw [List.length_zip]; omega)] at h
    injection h with h
    subst h
    clear HR
    go_wp2
    go_ret
    exact ⟨rfl, HB.out⟩
   obtain ⟨ad3, Y1, d1, Y2, d2, e3, hx0, hx1, hx2, hx3, hl1, hi1, hl2, hi2⟩ := at_T26 HR3.out (i : Int) (by omega) (by omega)
   subst e3
   obtain ⟨y, hy⟩ : ∃ y, y = rd_T26 l3 (i : Int) := ⟨_, rfl⟩
   simp only [← hy, Int.toNat_natCast] at hx0 hx1 hx2 hx3 hl1 hi1 hl2 hi2
   have HY := Aside0.mk hy
   clear hy
   replace hx0 := (HB.out.cell (World.block_lt_of_cell? w _ hx0)).trans hx0
   replace hx1 := (HB.out.cell (World.block_lt_of_cell? w _ hx1)).trans hx1
   replace hx2 := (HB.out.cell (World.block_lt_of_cell? w _ hx2)).trans hx2
   replace hx3 := (HB.out.cell (World.block_lt_of_cell? w _ hx3)).trans hx3
   have HL1 := Aside0.mk hl1
   have HL2 := Aside0.mk hl2
   have HY1 := Aside0.mk hi1
   have HY2 := Aside0.mk hi2
   clear hl1 hl2 hi1 hi2
   by_cases hi4 : i < l4.length
   case neg =>
    have h := HR.out
    rw [List.drop_of_length_le (by rw [List.length_zip]; omega)] at h
    injection h with h
    subst h
    clear HR
    have hg1 : decide ((l4.length : Int) ≤ (i : Int)) = true := decide_eq_true (by omega)
    have hg2 : decide (l4.length ≤ i) = true := decide_eq_true (by omega)
    go_wp2
    have hb := (Below.refl wr.heap.size wr).alloc (Nat.le_refl _) (.cells #[.int .u64 y.f0, .slice Y1 y.f1.length d1, .slice Y2 y.f2.length d2, .int .u64 y.f3] 26)
    have HKY := Aside0.mk (blk_new wr (.cells #[.int .u64 y.f0, .slice Y1 y.f1.length d1, .slice Y2 y.f2.length d2, .int .u64 y.f3] 26))
    replace HB := Aside0.mk (below_then HB.out HB.out.size hb)
    replace HK := Aside0.mk (blk_below HK.out hb)
    replace HM := Aside0.mk (Kd.C_below HM.out hb)
    clear hb hx0 hx1 hx2 hx3
    generalize wr.alloc (.cells #[.int .u64 y.f0, .slice Y1 y.f1.length d1, .slice Y2 y.f2.length d2, .int .u64 y.f3] 26) = wa at HB HK HM HKY ⊢
    generalize wr.heap.size = gy at HKY ⊢
    replace HB := Aside0.mk (below_drew1 HB.out)
    replace HK := Aside0.mk (blk_drew HK.out)
    replace HKY := Aside0.mk (blk_drew HKY.out)
    replace HM := Aside0.mk (Kd.C_drew HM.out)
    refine start_ (n := 13) (S := fun w' => True) (ds := []) #[false, false, false, false, false, false, false, false, false, false, false, false, false] (by kernel_rfl) rfl rfl trivial (fun hHeld => ?_); refine with_tabW damsonlaw14_IdemFirst.tab11 damsonlaw14_IdemFirst.bits11 (fun HT_ HW_ => ?_)
    generalize wa.drew = wd at HB HK HKY HM hHeld ⊢
    refine pureA_ 0 68 (bm 13 1) ?_
    refine pureA_ 1 69 (bm 13 3) ?_
    refine pureA_ 2 70 (bm 13 7) ?_
    refine pureA_ 3 71 (bm 13 15) ?_
    refine pureA_ 4 72 (bm 13 31) ?_
    refine pureU_ 5 73 (bm 13 63) ?_
    refine pureU_ 6 74 (bm 13 127) ?_
    refine pureU_ 7 75 (bm 13 255) ?_
    refine pureU_ 8 76 (bm 13 511) ?_
    refine pureU_ 9 77 (bm 13 1023) ?_
    refine pureU_ 10 78 (bm 13 2047) ?_
    refine pureU_ 11 79 (bm 13 4095) ?_
    refine pureA_ 12 80 (bm 13 8191) ?_
    refine done_ (done_of HT_.out (by kernel_rfl)) ?_
    clear hg1 hg2
    go_wp2
    go_ret
    exact ⟨rfl, HB.out⟩
   obtain ⟨ad4, e4, ht⟩ := Kd.at_int HR4.out (i : Int) (by omega) (by omega)
   subst e4
   obtain ⟨t, htt⟩ : ∃ t, t = rd l4 (i : Int) := ⟨_, rfl⟩
   simp only [← htt, Int.toNat_natCast] at ht
   have HX := Aside0.mk ht
   clear ht
   have HZ : Aside0 ((l3.zip l4).drop i = (y, t) :: (l3.zip l4).drop (i + 1)) := ⟨by rw [htt, HY.out]; exact zip_drop26 hil hi4⟩
   clear htt HY
   have h := HR.out
   rw [HZ.out, damsonlaw14_IdemFirst.rounds] at h
   dsimp only at h
   have hg1 : decide ((l4.length : Int) ≤ (i : Int)) = false := decide_eq_false (by omega)
   have hg2 : decide (l4.length ≤ i) = false := decide_eq_false (by omega)
   by_cases htx : t > a1_3
   · rw [if_pos htx] at h
     injection h with h
     subst h
     have hg3 : decide (a1_3 < t) = true := decide_eq_true htx
     clear htx HR HZ
     go_wp2
     have hb := (Below.refl wr.heap.size wr).alloc (Nat.le_refl _) (.cells #[.int .u64 y.f0, .slice Y1 y.f1.length d1, .slice Y2 y.f2.length d2, .int .u64 y.f3] 26)
     have HKY := Aside0.mk (blk_new wr (.cells #[.int .u64 y.f0, .slice Y1 y.f1.length d1, .slice Y2 y.f2.length d2, .int .u64 y.f3] 26))
     replace HB := Aside0.mk (below_then HB.out HB.out.size hb)
     replace HK := Aside0.mk (blk_below HK.out hb)
     replace HM := Aside0.mk (Kd.C_below HM.out hb)
     clear hb hx0 hx1 hx2 hx3
     generalize wr.alloc (.cells #[.int .u64 y.f0, .slice Y1 y.f1.length d1, .slice Y2 y.f2.length d2, .int .u64 y.f3] 26) = wa at HB HK HM HKY ⊢
     generalize wr.heap.size = gy at HKY ⊢
     replace HB := Aside0.mk (below_drew1 HB.out)
     replace HK := Aside0.mk (blk_drew HK.out)
     replace HKY := Aside0.mk (blk_drew HKY.out)
     replace HM := Aside0.mk (Kd.C_drew HM.out)
     refine start_ (n := 13) (S := fun w' => w'.cell? ⟨w.heap.size, 3, none⟩ = some (.int .u64 a1_3) ∧ w'.cell? (ad4.add i) = some (.int .u64 t)) (ds := []) #[false, false, false, false, false, false, false, false, false, false, false, false, false] (by kernel_rfl) rfl rfl ⟨(blk_cell HK.out 3).trans rfl, ((HB.out.cell (World.block_lt_of_cell? w _ HX.out)).trans HX.out)⟩ (fun hHeld => ?_); refine with_tabW damsonlaw14_IdemFirst.tab11 damsonlaw14_IdemFirst.bits11 (fun HT_ HW_ => ?_)
     generalize wa.drew = wd at HB HK HKY HM hHeld ⊢
     refine pureA_ 0 68 (bm 13 1) ?_
     refine pureA_ 1 69 (bm 13 3) ?_
     refine pureA_ 2 70 (bm 13 7) ?_
     refine pureA_ 3 71 (bm 13 15) ?_
     refine pureA_ 4 72 (bm 13 31) ?_
     refine pureA_ 5 73 (bm 13 63) ?_
     refine pureA_ 6 74 (bm 13 127) ?_
     refine pureA_ 7 75 (bm 13 255) ?_
     refine pureA_ 9 77 (bm 13 767) ?_
     refine take_ (i := 8) (N := some 76) (v := ?_) (a' := ?_) #[true, true, true, true, true, true, true, true, true, true, false, false, false] rfl rfl (take_ofW HT_.out HW_.out (by kernel_rfl)) (fun _ _ _ h => h) (Or.inl ⟨by rfl, ?_⟩) hHeld ?_ ?_
     rotate_left
     · rintro w' ⟨s0, s1⟩
       go_simp
       with_reducible rfl
     rotate_left
     · simp only [Act.put, List.setIfInBounds_toArray, List.set_cons_zero, List.set_cons_succ, i64_w, i32_w]
       rfl
     refine take_ (i := 10) (N := some 78) (v := ?_) (a' := ?_) #[true, true, true, true, true, true, true, true, true, true, true, false, false] rfl rfl (take_ofW HT_.out HW_.out (by kernel_rfl)) (fun _ _ _ h => h) (Or.inl ⟨by rfl, ?_⟩) hHeld ?_ ?_
     rotate_left
     · rintro w' ⟨s0, s1⟩
       go_simp
       with_reducible rfl
     rotate_left
     · simp only [Act.put, List.setIfInBounds_toArray, List.set_cons_zero, List.set_cons_succ, i64_w, i32_w]
       rfl
     refine pureA_ 11 79 (bm 13 4095) ?_
     refine pureA_ 12 80 (bm 13 8191) ?_
     refine done_ (done_of HT_.out (by kernel_rfl)) ?_
     clear hg1 hg2 hg3
     go_wp2
     go_ret
     exact ⟨rfl, HB.out⟩
   rw [if_neg htx] at h
   have hg3 : decide (a1_3 < t) = false := decide_eq_false htx
   clear htx HR
   obtain ⟨⟨pa, pe⟩, h1, h⟩ := Option.bind_eq_some_iff.mp h
   have HFp := Aside0.mk h1
   clear h1
   dsimp only at h
   by_cases hk : y.f0 = a1_0 ∧ pe ≠ (if damsonlaw14_IdemFirst.long y = true then 1 else 6)
   · rw [if_pos hk] at h
     cases h
   rw [if_neg hk] at h
   have HKE := Aside0.mk hk
   clear hk
   obtain ⟨m1, h1, h⟩ := Option.bind_eq_some_iff.mp h
   have HFw := Aside0.mk h1
   clear h1
   obtain ⟨m2, h1, h⟩ := Option.bind_eq_some_iff.mp h
   have HN := Aside0.mk h
   clear h
   unfold damsonlaw14_IdemFirst.lk at h1
   obtain ⟨⟨ra, ge⟩, h2, h1⟩ := Option.bind_eq_some_iff.mp h1
   have HF1 := Aside0.mk h2
   clear h2
   obtain ⟨⟨sa, he⟩, h2, h1⟩ := Option.bind_eq_some_iff.mp h1
   have HF2 := Aside0.mk h2
   clear h2
   obtain ⟨s1, h2, h1⟩ := Option.bind_eq_some_iff.mp h1
   have HS1 := Aside0.mk h2
   clear h2
   obtain ⟨s2, h2, h1⟩ := Option.bind_eq_some_iff.mp h1
   have HS2 := Aside0.mk h2
   clear h2
   dsimp only at h1 HS1
   by_cases hq : ge = 0 ∧ s1 = true ∧ (he == 0) = s2 ∧ (he = 0 ∨ he = 12 ∧ sa.length = 0)
   case neg => rw [if_neg hq] at h1; cases h1
   rw [if_pos hq] at h1
   injection h1 with h1
   subst h1
   obtain ⟨rfl, rfl, hq3, hq4⟩ := hq
   subst hq3
   have HQ := Aside0.mk hq4
   clear hq4
   go_wp2
   have hb := (Below.refl wr.heap.size wr).alloc (Nat.le_refl _) (.cells #[.int .u64 y.f0, .slice Y1 y.f1.length d1, .slice Y2 y.f2.length d2, .int .u64 y.f3] 26)
   have HKY := Aside0.mk (blk_new wr (.cells #[.int .u64 y.f0, .slice Y1 y.f1.length d1, .slice Y2 y.f2.length d2, .int .u64 y.f3] 26))
   replace HB := Aside0.mk (below_then HB.out HB.out.size hb)
   replace HK := Aside0.mk (blk_below HK.out hb)
   replace HM := Aside0.mk (Kd.C_below HM.out hb)
   clear hb hx0 hx1 hx2 hx3
   generalize wr.alloc (.cells #[.int .u64 y.f0, .slice Y1 y.f1.length d1, .slice Y2 y.f2.length d2, .int .u64 y.f3] 26) = wa at HB HK HM HKY ⊢
   generalize wr.heap.size = gy at HKY ⊢
   replace HB := Aside0.mk (below_drew1 HB.out)
   replace HK := Aside0.mk (blk_drew HK.out)
   replace HKY := Aside0.mk (blk_drew HKY.out)
   replace HM := Aside0.mk (Kd.C_drew HM.out)
   refine start_ (n := 13) (S := fun w' => w'.cell? ⟨w.heap.size, 3, none⟩ = some (.int .u64 a1_3) ∧ w'.cell? (ad4.add i) = some (.int .u64 t)) (ds := []) #[false, false, false, false, false, false, false, false, false, false, false, false, false] (by kernel_rfl) rfl rfl ⟨(blk_cell HK.out 3).trans rfl, ((HB.out.cell (World.block_lt_of_cell? w _ HX.out)).trans HX.out)⟩ (fun hHeld => ?_); refine with_tabW damsonlaw14_IdemFirst.tab11 damsonlaw14_IdemFirst.bits11 (fun HT_ HW_ => ?_)
   generalize wa.drew = wd at HB HK HKY HM hHeld ⊢
   refine pureA_ 0 68 (bm 13 1) ?_
   refine pureA_ 1 69 (bm 13 3) ?_
   refine pureA_ 2 70 (bm 13 7) ?_
   refine pureA_ 3 71 (bm 13 15) ?_
   refine pureA_ 4 72 (bm 13 31) ?_
   refine pureA_ 5 73 (bm 13 63) ?_
   refine pureA_ 6 74 (bm 13 127) ?_
   refine pureA_ 7 75 (bm 13 255) ?_
   refine pureA_ 9 77 (bm 13 767) ?_
   refine take_ (i := 8) (N := some 76) (v := ?_) (a' := ?_) #[true, true, true, true, true, true, true, true, true, true, false, false, false] rfl rfl (take_ofW HT_.out HW_.out (by kernel_rfl)) (fun _ _ _ h => h) (Or.inl ⟨by rfl, ?_⟩) hHeld ?_ ?_
   rotate_left
   · rintro w' ⟨s0, s1⟩
     go_simp
     with_reducible rfl
   rotate_left
   · simp only [Act.put, List.setIfInBounds_toArray, List.set_cons_zero, List.set_cons_succ, i64_w, i32_w]
     rfl
   refine take_ (i := 10) (N := some 78) (v := ?_) (a' := ?_) #[true, true, true, true, true, true, true, true, true, true, true, false, false] rfl rfl (take_ofW HT_.out HW_.out (by kernel_rfl)) (fun _ _ _ h => h) (Or.inl ⟨by rfl, ?_⟩) hHeld ?_ ?_
   rotate_left
   · rintro w' ⟨s0, s1⟩
     go_simp
     with_reducible rfl
   rotate_left
   · simp only [Act.put, List.setIfInBounds_toArray, List.set_cons_zero, List.set_cons_succ, i64_w, i32_w]
     rfl
   refine pureA_ 11 79 (bm 13 4095) ?_
   refine pureA_ 12 80 (bm 13 8191) ?_
   refine done_ (done_of HT_.out (by kernel_rfl)) ?_
   clear hg1 hg2 hg3
   go_wp2
   replace HB := Aside0.mk (below_drew1 HB.out)
   replace HK := Aside0.mk (blk_drew HK.out)
   replace HKY := Aside0.mk (blk_drew HKY.out)
   replace HM := Aside0.mk (Kd.C_drew HM.out)
   refine start_ (n := 12) (S := fun w' => w'.cell? ⟨gy, 0, none⟩ = some (.int .u64 y.f0) ∧ w'.cell? ⟨gy, 1, none⟩ = some (.slice Y1 y.f1.length d1) ∧ w'.cell? ⟨gy, 2, none⟩ = some (.slice Y2 y.f2.length d2) ∧ w'.cell? ⟨gy, 3, none⟩ = some (.int .u64 y.f3) ∧ w'.cell? (ad4.add i) = some (.int .u64 t)) (ds := []) #[false, false, false, false, false, false, false, false, false, false, false, false] (by kernel_rfl) rfl rfl ⟨(blk_cell HKY.out 0).trans rfl, (blk_cell HKY.out 1).trans rfl, (blk_cell HKY.out 2).trans rfl, (blk_cell HKY.out 3).trans rfl, ((HB.out.cell (World.block_lt_of_cell? w _ HX.out)).trans HX.out)⟩ (fun hHeld => ?_); refine with_tabW damsonlaw14_IdemFirst.tab12 damsonlaw14_IdemFirst.bits12 (fun HT_ HW_ => ?_)
   generalize wd.drew = we at HB HK HKY HM hHeld ⊢
   refine pureA_ 0 82 (bm 12 1) ?_
   refine pureA_ 2 84 (bm 12 5) ?_
   refine pureA_ 3 85 (bm 12 13) ?_
   refine pureA_ 4 86 (bm 12 29) ?_
   refine take_ (i := 1) (N := some 83) (v := ?_) (a' := ?_) #[true, true, true, true, true, false, false, false, false, false, false, false] rfl rfl (take_ofW HT_.out HW_.out (by kernel_rfl)) (fun _ _ _ h => h) (Or.inl ⟨by rfl, ?_⟩) hHeld ?_ ?_
   rotate_left
   · rintro w' ⟨s0, s1, s2, s3, s4⟩
     go_simp
     with_reducible rfl
   rotate_left
   · simp only [Act.put, List.setIfInBounds_toArray, List.set_cons_zero, List.set_cons_succ, i64_w, i32_w]
     rfl
   refine take_ (i := 5) (N := some 87) (v := ?_) (a' := ?_) #[true, true, true, true, true, true, false, false, false, false, false, false] rfl rfl (take_ofW HT_.out HW_.out (by kernel_rfl)) (fun _ _ _ h => h) (Or.inl ⟨by rfl, ?_⟩) hHeld ?_ ?_
   rotate_left
   · rintro w' ⟨s0, s1, s2, s3, s4⟩
     go_simp
     with_reducible rfl
   rotate_left
   · simp only [Act.put, List.setIfInBounds_toArray, List.set_cons_zero, List.set_cons_succ, i64_w, i32_w]
     rfl
   refine one_ (i := 6) (N := some 88) #[true, true, true, true, true, true, true, false, false, false, false, false] rfl rfl (one_of HT_.out (by kernel_rfl)) (by decide) (fun K hK => ?_)
   refine goes_ Try.func11 (by kernel_rfl) rfl #[.slice Am m.length cm, .agg #[.int .u64 y.f0, .slice Y1 y.f1.length d1, .slice Y2 y.f2.length d2, .int .u64 y.f3], .int .u64 t] (by rfl) rfl rfl (by (try simp only [List.map_toArray, List.map_cons, List.map_nil]); first | done | rfl | (simp only [List.length_drop, List.length_take]; rfl)) ?_
   refine (idem_Put.calls k Am cm m y.f0 Y1 d1 y.f1 Y2 d2 y.f2 y.f3 t pa pe _ HM.out HL.out (Kd.C_below HY1.out HB.out) HL1.out (Kd.C_below HY2.out HB.out) HL2.out HFp.out).mono ?_
   rintro e w6 ⟨v, rfl, ho, hb⟩
   refine ⟨_, rfl, ?_⟩
   obtain ⟨Ap, cp, ev⟩ := Kd.S_slice ho
   subst ev
   have HMp := Aside0.mk (Kd.S_reads' ho).2.2
   have HLp := Aside0.mk (Kd.S_reads' ho).2.1
   replace HB := Aside0.mk (below_then HB.out HB.out.size hb)
   replace HK := Aside0.mk (blk_below HK.out hb)
   replace HKY := Aside0.mk (blk_below HKY.out hb)
   replace HM := Aside0.mk (Kd.C_below HM.out hb)
   clear ho hb
   refine hK.out _ _ ⟨(blk_cell HKY.out 0).trans rfl, (blk_cell HKY.out 1).trans rfl, (blk_cell HKY.out 2).trans rfl, (blk_cell HKY.out 3).trans rfl, ((HB.out.cell (World.block_lt_of_cell? w _ HX.out)).trans HX.out)⟩ (fun hHeld => ?_)
   clear hK K
   refine norm_ (a' := ?_) ?_ ?_
   rotate_left
   · show Act.put _ (some 88) _ = _
     simp only [Act.put, List.setIfInBounds_toArray, List.set_cons_zero, List.set_cons_succ, i64_w, i32_w]
     rfl
   refine pureA_ 7 81 (bm 12 255) ?_
   refine pureA_ 8 89 (bm 12 511) ?_
   refine pureA_ 9 90 (bm 12 1023) ?_
   refine pureA_ 10 17 (bm 12 2047) ?_
   refine pureA_ 11 18 (bm 12 4095) ?_
   refine done_ (done_of HT_.out (by kernel_rfl)) ?_
   go_upto_region 13 with (fail)
   go_cut [19] (fun v wc => v = .bool (damsonlaw14_IdemFirst.long y) ∧ w6 = wc)
   case first =>
    obtain ⟨hy0, hy1, hy2, hy3, hy4, hy5, hy6, hy7⟩ := cz4_ HKY.out
    by_cases hll : y.f1.length < y.f2.length
    · go_wp2
      go_meet
      case rel => exact ⟨by unfold damsonlaw14_IdemFirst.long; congr 1; rw [Bool.eq_iff_iff]; simp; omega, rfl⟩
    · go_wp2
      go_meet
      case rel => exact ⟨by unfold damsonlaw14_IdemFirst.long; congr 1; rw [Bool.eq_iff_iff]; simp; omega, rfl⟩
   case rest =>
   obtain ⟨rfl, rfl⟩ := hcut
   obtain ⟨lg, hlg⟩ : ∃ lg, lg = damsonlaw14_IdemFirst.long y := ⟨_, rfl⟩
   rw [← hlg]
   have hke := HKE.out
   rw [← hlg] at hke
   clear hlg HKE
   have HKE := Aside0.mk hke
   clear hke
   obtain ⟨hy0, hy1, hy2, hy3, hy4, hy5, hy6, hy7⟩ := cz4_ HKY.out
   obtain ⟨hz0, hz1, hz2, hz3, hz4, hz5, hz6, hz7⟩ := cz4_ HK.out
   go_upto_region 14 with (fail)
   go_cut [118] (fun v wd => v = .bool false ∧ w6 = wd)
   case first =>
    by_cases hyk : y.f0 = a1_0
    · have hyb : (y.f0 == a1_0) = true := beq_iff_eq.mpr hyk
      have hpe : pe = if lg = true then 1 else 6 := Classical.byContradiction fun hh => HKE.out ⟨hyk, hh⟩
      clear hyk
      cases lg with
      | true =>
        rw [if_pos rfl] at hpe
        subst hpe
        go_wp2
        go_meet
        case rel => exact ⟨rfl, rfl⟩
      | false =>
        rw [if_neg (by decide)] at hpe
        subst hpe
        go_wp2
        go_meet
        case rel => exact ⟨rfl, rfl⟩
    · have hyb : (y.f0 == a1_0) = false := beq_eq_false_iff_ne.mpr hyk
      clear hyk
      go_wp2
      go_meet
      case rel => exact ⟨rfl, rfl⟩
   case rest =>
   obtain ⟨rfl, rfl⟩ := hcut
   clear hy0 hy1 hy2 hy3 hy4 hy5 hy6 hy7 hz0 hz1 hz2 hz3 hz4 hz5 hz6 hz7 HKE
   have hsw := HFw.out
   unfold damsonlaw14_IdemFirst.sw at hsw
   dsimp only at hsw
   clear HFw
   go_upto_if 120 with (fail)
   go_cut [17, 18] (fun v17 v18 wc => ∃ (A1 : Option Addr) (c1 : Nat), v17 = .slice A1 m1.length c1 ∧ v18 = .int .i64 0 ∧ Aside0 (m1.length ≤ c1) ∧ Aside0 (Kd.C k26 wc A1 m1.length m1) ∧ Aside0 (Below w.heap.size w wc) ∧ Aside0 (wc.heap[w.heap.size]? = some (.cells #[.int .u64 a1_0, .slice A1_1 l1_1.length c1_1, .slice A1_2 l1_2.length c1_2, .int .u64 a1_3] 26 (0, 0))))
   case first =>
    by_cases hp : pe = 0
    · subst hp
      rw [if_pos rfl] at hsw
      injection hsw with hsw
      subst hsw
      go_wp2
      go_meet
      case rel => exact ⟨Ap, cp, rfl, rfl, HLp, HMp, HB, HK⟩
    · rw [if_neg hp] at hsw
      have hpb : (pe != 0) = true := bne_iff_ne.mpr hp
      clear hp
      obtain ⟨⟨sb, se⟩, h1, hsw⟩ := Option.bind_eq_some_iff.mp hsw
      have HFs := Aside0.mk h1
      clear h1
      dsimp only at hsw
      by_cases hse : se = 0
      case neg => rw [if_neg hse] at hsw; cases hsw
      rw [if_pos hse] at hsw
      injection hsw with hsw
      subst hsw hse
      have ht4 := ((HB.out.cell (World.block_lt_of_cell? w _ HX.out)).trans HX.out)
      have hi4b : (i : Int) < (l4.length : Int) := by omega
      go_wp2_with (go_at_call 12; refine (idem_Sweep.calls k Am cm m t sb 0 _ HM.out HL.out HFs.out).mono ?_; rintro e w7 ⟨v, rfl, ho, hb⟩; clear HFs ht4; obtain ⟨As, cs, ev⟩ := Kd.S_slice ho; subst ev; have HMs := Aside0.mk (Kd.S_reads' ho).2.2; have HLs := Aside0.mk (Kd.S_reads' ho).2.1; replace HB := Aside0.mk (below_then HB.out HB.out.size hb); replace HK := Aside0.mk (blk_below HK.out hb); replace HKY := Aside0.mk (blk_below HKY.out hb); replace HM := Aside0.mk (Kd.C_below HM.out hb); clear ho hb)
      go_meet
      case rel => exact ⟨As, cs, rfl, rfl, HLs, HMs, HB, HK⟩
   case rest =>
   clear HB HK HKY HM HL HMp HLp
   obtain ⟨A1, c1, rfl, rfl, HL, HM, HB, HK⟩ := hcut
   go_wp2
   replace HB := Aside0.mk (below_drew1 HB.out)
   replace HK := Aside0.mk (blk_drew HK.out)
   replace HM := Aside0.mk (Kd.C_drew HM.out)
   refine start_ (n := 15) (S := fun w' => w'.cell? ⟨w.heap.size, 0, none⟩ = some (.int .u64 a1_0) ∧ w'.cell? ⟨w.heap.size, 1, none⟩ = some (.slice A1_1 l1_1.length c1_1) ∧ w'.cell? (ad4.add i) = some (.int .u64 t)) (ds := []) #[false, false, false, false, false, false, false, false, false, false, false, false, false, false, false] (by kernel_rfl) rfl rfl ⟨(blk_cell HK.out 0).trans rfl, (blk_cell HK.out 1).trans rfl, ((HB.out.cell (World.block_lt_of_cell? w _ HX.out)).trans HX.out)⟩ (fun hHeld => ?_); refine with_tabW damsonlaw14_IdemFirst.tab20 damsonlaw14_IdemFirst.bits20 (fun HT_ HW_ => ?_)
   generalize wc.drew = wh at HB HK HM hHeld ⊢
   refine pureA_ 0 134 (bm 15 1) ?_
   refine pureA_ 1 135 (bm 15 3) ?_
   refine pureA_ 3 137 (bm 15 11) ?_
   refine pureA_ 5 139 (bm 15 43) ?_
   refine pureA_ 6 140 (bm 15 107) ?_
   refine pureA_ 7 141 (bm 15 235) ?_
   refine take_ (i := 2) (N := some 136) (v := ?_) (a' := ?_) #[true, true, true, true, false, true, true, true, false, false, false, false, false, false, false] rfl rfl (take_ofW HT_.out HW_.out (by kernel_rfl)) (fun _ _ _ h => h) (Or.inl ⟨by rfl, ?_⟩) hHeld ?_ ?_
   rotate_left
   · rintro w' ⟨s0, s1, s2⟩
     go_simp
     with_reducible rfl
   rotate_left
   · simp only [Act.put, List.setIfInBounds_toArray, List.set_cons_zero, List.set_cons_succ, i64_w, i32_w]
     rfl
   refine take_ (i := 4) (N := some 138) (v := ?_) (a' := ?_) #[true, true, true, true, true, true, true, true, false, false, false, false, false, false, false] rfl rfl (take_ofW HT_.out HW_.out (by kernel_rfl)) (fun _ _ _ h => h) (Or.inl ⟨by rfl, ?_⟩) hHeld ?_ ?_
   rotate_left
   · rintro w' ⟨s0, s1, s2⟩
     go_simp
     with_reducible rfl
   rotate_left
   · simp only [Act.put, List.setIfInBounds_toArray, List.set_cons_zero, List.set_cons_succ, i64_w, i32_w]
     rfl
   refine take_ (i := 8) (N := some 142) (v := ?_) (a' := ?_) #[true, true, true, true, true, true, true, true, true, false, false, false, false, false, false] rfl rfl (take_ofW HT_.out HW_.out (by kernel_rfl)) (fun _ _ _ h => h) (Or.inl ⟨by rfl, ?_⟩) hHeld ?_ ?_
   rotate_left
   · rintro w' ⟨s0, s1, s2⟩
     go_simp
     with_reducible rfl
   rotate_left
   · simp only [Act.put, List.setIfInBounds_toArray, List.set_cons_zero, List.set_cons_succ, i64_w, i32_w]
     rfl
   refine one_ (i := 9) (N := some 143) #[true, true, true, true, true, true, true, true, true, true, false, false, false, false, false] rfl rfl (one_of HT_.out (by kernel_rfl)) (by decide) (fun K hK => ?_)
   refine goes_ Try.func13 (by kernel_rfl) rfl #[.slice A1 m1.length c1, .int .u64 a1_0, .slice A1_1 l1_1.length c1_1, .int .u64 t] (by rfl) rfl rfl (by (try simp only [List.map_toArray, List.map_cons, List.map_nil]); first | done | rfl | (simp only [List.length_drop, List.length_take]; rfl)) ?_
   refine (idem_Look.calls k A1 c1 m1 a1_0 A1_1 c1_1 l1_1 t ra 0 _ HM.out HL.out (Kd.C_below HR1_1.out HB.out) HC1_1.out HF1.out).mono ?_
   rintro e w8 ⟨v, rfl, ho, hb⟩
   refine ⟨_, rfl, ?_⟩
   obtain ⟨Ar, cr, ev⟩ := Kd.R_slice ho
   subst ev
   have HMr := Aside0.mk (Kd.R_reads' ho).2.2
   have HLr := Aside0.mk (Kd.R_reads' ho).2.1
   replace HB := Aside0.mk (below_then HB.out HB.out.size hb)
   replace HK := Aside0.mk (blk_below HK.out hb)
   replace HM := Aside0.mk (Kd.C_below HM.out hb)
   clear ho hb
   refine hK.out _ _ ⟨(blk_cell HK.out 0).trans rfl, (blk_cell HK.out 1).trans rfl, ((HB.out.cell (World.block_lt_of_cell? w _ HX.out)).trans HX.out)⟩ (fun hHeld => ?_)
   clear hK K
   refine norm_ (a' := ?_) ?_ ?_
   rotate_left
   · show Act.put _ (some 143) _ = _
     simp only [Act.put, List.setIfInBounds_toArray, List.set_cons_zero, List.set_cons_succ, i64_w, i32_w]
     rfl
   refine pureA_ 10 133 (bm 15 2047) ?_
   refine pureA_ 11 144 (bm 15 4095) ?_
   refine pureA_ 12 145 (bm 15 8191) ?_
   refine pureA_ 13 20 (bm 15 16383) ?_
   refine pureA_ 14 21 (bm 15 32767) ?_
   refine done_ (done_of HT_.out (by kernel_rfl)) ?_
   go_wp2
   replace HB := Aside0.mk (below_drew1 HB.out)
   replace HK := Aside0.mk (blk_drew HK.out)
   replace HM := Aside0.mk (Kd.C_drew HM.out)
   replace HMr := Aside0.mk (Kd.C_drew HMr.out)
   refine start_ (n := 14) (S := fun w' => w'.cell? ⟨w.heap.size, 0, none⟩ = some (.int .u64 a1_0) ∧ w'.cell? (ad4.add i) = some (.int .u64 t)) (ds := []) #[false, false, false, false, false, false, false, false, false, false, false, false, false, false] (by kernel_rfl) rfl rfl ⟨(blk_cell HK.out 0).trans rfl, ((HB.out.cell (World.block_lt_of_cell? w _ HX.out)).trans HX.out)⟩ (fun hHeld => ?_); refine with_tabW damsonlaw14_IdemFirst.tab21 damsonlaw14_IdemFirst.bits21 (fun HT_ HW_ => ?_)
   generalize w8.drew = wh2 at HB HK HM HMr hHeld ⊢
   refine pureA_ 0 147 (bm 14 1) ?_
   refine pureA_ 1 148 (bm 14 3) ?_
   refine pureA_ 3 150 (bm 14 11) ?_
   refine pureA_ 4 151 (bm 14 27) ?_
   refine pureA_ 5 152 (bm 14 59) ?_
   refine pureA_ 6 153 (bm 14 123) ?_
   refine take_ (i := 2) (N := some 149) (v := ?_) (a' := ?_) #[true, true, true, true, true, true, true, false, false, false, false, false, false, false] rfl rfl (take_ofW HT_.out HW_.out (by kernel_rfl)) (fun _ _ _ h => h) (Or.inl ⟨by rfl, ?_⟩) hHeld ?_ ?_
   rotate_left
   · rintro w' ⟨s0, s1⟩
     go_simp
     with_reducible rfl
   rotate_left
   · simp only [Act.put, List.setIfInBounds_toArray, List.set_cons_zero, List.set_cons_succ, i64_w, i32_w]
     rfl
   refine take_ (i := 7) (N := some 154) (v := ?_) (a' := ?_) #[true, true, true, true, true, true, true, true, false, false, false, false, false, false] rfl rfl (take_ofW HT_.out HW_.out (by kernel_rfl)) (fun _ _ _ h => h) (Or.inl ⟨by rfl, ?_⟩) hHeld ?_ ?_
   rotate_left
   · rintro w' ⟨s0, s1⟩
     go_simp
     with_reducible rfl
   rotate_left
   · simp only [Act.put, List.setIfInBounds_toArray, List.set_cons_zero, List.set_cons_succ, i64_w, i32_w]
     rfl
   refine one_ (i := 8) (N := some 155) #[true, true, true, true, true, true, true, true, true, false, false, false, false, false] rfl rfl (one_of HT_.out (by kernel_rfl)) (by decide) (fun K hK => ?_)
   refine goes_ Try.func13 (by kernel_rfl) rfl #[.slice A1 m1.length c1, .int .u64 a1_0, .slice A5 l5.length c5, .int .u64 t] (by rfl) rfl rfl (by (try simp only [List.map_toArray, List.map_cons, List.map_nil]); first | done | rfl | (simp only [List.length_drop, List.length_take]; rfl)) ?_
   refine (idem_Look.calls k A1 c1 m1 a1_0 A5 c5 l5 t sa he _ HM.out HL.out (Kd.C_below HR5.out HB.out) HC5.out HF2.out).mono ?_
   rintro e w9 ⟨v, rfl, ho, hb⟩
   refine ⟨_, rfl, ?_⟩
   obtain ⟨As, cs, ev⟩ := Kd.R_slice ho
   subst ev
   replace HB := Aside0.mk (below_then HB.out HB.out.size hb)
   replace HK := Aside0.mk (blk_below HK.out hb)
   replace HM := Aside0.mk (Kd.C_below HM.out hb)
   replace HMr := Aside0.mk (Kd.C_below HMr.out hb)
   clear ho hb
   refine hK.out _ _ ⟨(blk_cell HK.out 0).trans rfl, ((HB.out.cell (World.block_lt_of_cell? w _ HX.out)).trans HX.out)⟩ (fun hHeld => ?_)
   clear hK K
   refine norm_ (a' := ?_) ?_ ?_
   rotate_left
   · show Act.put _ (some 155) _ = _
     simp only [Act.put, List.setIfInBounds_toArray, List.set_cons_zero, List.set_cons_succ, i64_w, i32_w]
     rfl
   refine pureA_ 9 146 (bm 14 1023) ?_
   refine pureA_ 10 156 (bm 14 2047) ?_
   refine pureA_ 11 157 (bm 14 4095) ?_
   refine pureA_ 12 22 (bm 14 8191) ?_
   refine pureA_ 13 23 (bm 14 16383) ?_
   refine done_ (done_of HT_.out (by kernel_rfl)) ?_
   obtain ⟨hz0, hz1, hz2, hz3, hz4, hz5, hz6, hz7⟩ := cz4_ HK.out
   rcases HQ.out with hq | ⟨hq, hsl⟩
   · subst hq
     have HS3 : Aside0 (damsonref01_SameBytes.f l5 l1_1 = some true) := ⟨HS2.out⟩
     clear HS2 HQ
     go_wp2_with (first | (go_at_call 14; refine (damsonref01_SameBytes.calls Ar cr ra A1_2 c1_2 l1_2 true _ HMr.out HLr.out (Kd.C_below HR1_2.out HB.out) HC1_2.out HS1.out).mono ?_; rintro e w10 ⟨rfl, hd⟩; clear HS1; have hb := hd.below; replace HB := Aside0.mk (below_then HB.out HB.out.size hb); replace HK := Aside0.mk (blk_below HK.out hb); replace HM := Aside0.mk (Kd.C_below HM.out hb); clear hz0 hz1 hz2 hz3 hz4 hz5 hz6 hz7; obtain ⟨hz0, hz1, hz2, hz3, hz4, hz5, hz6, hz7⟩ := cz4_ HK.out; clear hb hd HMr) | (go_at_call 14; refine (damsonref01_SameBytes.calls A5 c5 l5 A1_1 c1_1 l1_1 true _ (Kd.C_below HR5.out HB.out) HC5.out (Kd.C_below HR1_1.out HB.out) HC1_1.out HS3.out).mono ?_; rintro e w11 ⟨rfl, hd⟩; clear HS3; have hb := hd.below; replace HB := Aside0.mk (below_then HB.out HB.out.size hb); replace HK := Aside0.mk (blk_below HK.out hb); replace HM := Aside0.mk (Kd.C_below HM.out hb); clear hz0 hz1 hz2 hz3 hz4 hz5 hz6 hz7; clear hb hd))
     go_roundw
     case rel => exact ⟨i + 1, m1, A1, c1, by omega, by go_num, rfl, HL, HM, HB, HK, HN⟩
     case measure => simp [intOf]; omega
   · subst hq
     obtain rfl : sa = [] := List.length_eq_zero_iff.mp hsl
     clear hsl
     have HS3 : Aside0 (damsonref01_SameBytes.f l5 l1_1 = some false) := ⟨HS2.out⟩
     clear HS2 HQ
     go_wp2_with (first | (go_at_call 14; refine (damsonref01_SameBytes.calls Ar cr ra A1_2 c1_2 l1_2 true _ HMr.out HLr.out (Kd.C_below HR1_2.out HB.out) HC1_2.out HS1.out).mono ?_; rintro e w10 ⟨rfl, hd⟩; clear HS1; have hb := hd.below; replace HB := Aside0.mk (below_then HB.out HB.out.size hb); replace HK := Aside0.mk (blk_below HK.out hb); replace HM := Aside0.mk (Kd.C_below HM.out hb); clear hz0 hz1 hz2 hz3 hz4 hz5 hz6 hz7; obtain ⟨hz0, hz1, hz2, hz3, hz4, hz5, hz6, hz7⟩ := cz4_ HK.out; clear hb hd HMr) | (go_at_call 14; refine (damsonref01_SameBytes.calls A5 c5 l5 A1_1 c1_1 l1_1 false _ (Kd.C_below HR5.out HB.out) HC5.out (Kd.C_below HR1_1.out HB.out) HC1_1.out HS3.out).mono ?_; rintro e w11 ⟨rfl, hd⟩; clear HS3; have hb := hd.below; replace HB := Aside0.mk (below_then HB.out HB.out.size hb); replace HK := Aside0.mk (blk_below HK.out hb); replace HM := Aside0.mk (Kd.C_below HM.out hb); clear hz0 hz1 hz2 hz3 hz4 hz5 hz6 hz7; clear hb hd))
     go_roundw
     case rel => exact ⟨i + 1, m1, A1, c1, by omega, by go_num, rfl, HL, HM, HB, HK, HN⟩
     case measure => simp [intOf]; omega


/-- THE ONE PURE STATEMENT of damsonlaw14_IdemFirst: yours. -/
def damsonlaw14_IdemFirst.Pure : Prop := ∀ (l0 : List (S26)) (s1 : S26) (a2 : Int) (l3 : List (S26)) (l4 : List Int) (l5 : List Int), (l0.length ≤ 9223372036854775807 ∧ ∀ y_ ∈ l0, G26 y_) → G26 s1 → (Lit.int .u64 a2).wf = true → (l3.length ≤ 9223372036854775807 ∧ ∀ y_ ∈ l3, G26 y_) → (l4.length ≤ 9223372036854775807 ∧ ∀ y_ ∈ l4, (Lit.int .u64 y_).wf = true) → (l5.length ≤ 9223372036854775807 ∧ ∀ y_ ∈ l5, (Lit.int .u8 y_).wf = true) → ∃ k, damsonlaw14_IdemFirst.f k l0 (s1.f0) (s1.f1) (s1.f2) (s1.f3) a2 l3 l4 l5 = some true
theorem damsonlaw14_IdemFirst.walk (P : damsonlaw14_IdemFirst.Pure) (w : World) (l0 : List (S26)) (A0 : Option Addr) (c0 : Nat) (hr0 : Kd.C k26 w A0 l0.length l0) (hc0 : l0.length ≤ c0) (g0 : l0.length ≤ 9223372036854775807 ∧ ∀ y_ ∈ l0, G26 y_) (s1 : S26) (A1_1 : Option Addr) (c1_1 : Nat) (hr1_1 : Kd.C (Kd.int .u8) w A1_1 (s1.f1).length (s1.f1)) (hc1_1 : (s1.f1).length ≤ c1_1) (A1_2 : Option Addr) (c1_2 : Nat) (hr1_2 : Kd.C (Kd.int .u8) w A1_2 (s1.f2).length (s1.f2)) (hc1_2 : (s1.f2).length ≤ c1_2) (g1 : G26 s1) (a2 : Int) (g2 : (Lit.int .u64 a2).wf = true) (l3 : List (S26)) (A3 : Option Addr) (c3 : Nat) (hr3 : Kd.C k26 w A3 l3.length l3) (hc3 : l3.length ≤ c3) (g3 : l3.length ≤ 9223372036854775807 ∧ ∀ y_ ∈ l3, G26 y_) (l4 : List Int) (A4 : Option Addr) (c4 : Nat) (hr4 : Kd.C (Kd.int .u64) w A4 l4.length l4) (hc4 : l4.length ≤ c4) (g4 : l4.length ≤ 9223372036854775807 ∧ ∀ y_ ∈ l4, (Lit.int .u64 y_).wf = true) (l5 : List Int) (A5 : Option Addr) (c5 : Nat) (hr5 : Kd.C (Kd.int .u8) w A5 l5.length l5) (hc5 : l5.length ≤ c5) (g5 : l5.length ≤ 9223372036854775807 ∧ ∀ y_ ∈ l5, (Lit.int .u8 y_).wf = true) :
    Calls Try.prog 3 #[.slice A0 l0.length c0, .agg #[.int .u64 (s1.f0), .slice A1_1 (s1.f1).length c1_1, .slice A1_2 (s1.f2).length c1_2, .int .u64 (s1.f3)], .int .u64 a2, .slice A3 l3.length c3, .slice A4 l4.length c4, .slice A5 l5.length c5] w fun e w' => e = .returned (.bool true) ∧ Below w.heap.size w w' := by
  obtain ⟨k, h⟩ := P l0 s1 a2 l3 l4 l5 g0 g1 g2 g3 g4 g5
  refine (damsonlaw14_IdemFirst.calls k A0 c0 l0 (s1.f0) A1_1 c1_1 (s1.f1) A1_2 c1_2 (s1.f2) (s1.f3) a2 A3 c3 l3 A4 c4 l4 A5 c5 l5 true w hr0 hc0 hr1_1 hc1_1 hr1_2 hc1_2 hr3 hc3 hr4 hc4 hr5 hc5 h).mono ?_
  rintro e w' ⟨rfl, hd⟩
  exact ⟨rfl, hd⟩
end Go.Proofs.Ytmoncgfffdddeaa.P
