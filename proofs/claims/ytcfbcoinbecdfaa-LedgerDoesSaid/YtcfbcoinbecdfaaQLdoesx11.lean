-- written by a program of this session (wip/print)
import Derived.Test.YtcfbcoinbecdfaaQLdoesx0
import Derived.Test.YtcfbcoinbecdfaaQLdoesx5
import Derived.Test.YtcfbcoinbecdfaaQLdoesx7
import Derived.Test.YtcfbcoinbecdfaaQLdoesx8
import Derived.Test.YtcfbcoinbecdfaaQLdoesx10
namespace Go.Proofs.Ytcfbcoinbecdfaa.P
open Go.RowKit Go.Proofs.YtcfbcoinbecdfaaW.PrintWords Go.Proofs.YtcfbcoinbecdfaaW.PrintLast Go.Proofs.YtcfbcoinbecdfaaW.PrintMore
attribute [local go_sem] max2_int min2_int max_two min_two max_three min_three max_four min_four run_sub64_   -- for this text's walks alone
set_option linter.unusedVariables false
set_option linter.unusedSimpArgs false

/-! ### ledger_End: function 58 (by hand) -/
def ledger_change.gN (k : Nat) (l : List S25) (id : Int) (how : S25 → Option (S25 × Int)) : Option (List S25 × Int) := (ledger_place.f k l id).bind fun p => if p.2 = 0 then (if 0 ≤ p.1 ∧ p.1 < (l.length : Int) then (how (rd_T25 l p.1)).bind fun q => (ledger_owns.f l).bind fun m => some (m.set p.1.toNat q.1, q.2) else none) else none
/-- The three boxes of End's closure. -/
structure Box3 (bp bh bn : Nat) (paid : Bool) (hold n : Int) (w : World) : Prop where
  p : w.heap[bp]? = some (.cells #[.bool paid] 4 (0, 0))
  h : w.heap[bh]? = some (.cells #[.int .u64 hold] 22 (0, 0))
  n : w.heap[bn]? = some (.cells #[.int .u64 n] 22 (0, 0))
theorem Box3.below {bp bh bn : Nat} {paid : Bool} {hold n : Int} {w w1 : World} (b : Box3 bp bh bn paid hold n w) (hb : Below w.heap.size w w1) : Box3 bp bh bn paid hold n w1 := ⟨blk_below b.p hb, blk_below b.h hb, blk_below b.n hb⟩
/-- What a function handed to change does at a channel, where it writes a number into a box. -/
def HowN (w0 : World) (bp bh bn : Nat) (paid : Bool) (hold : Int) (n : FuncId) (caps : List Value) (how : S25 → Option (S25 × Int)) : Prop := ∀ (c : S25) (A1 : Option Addr) (c1 : Nat) (c2 : S25) (m : Int) (w1 : World), Below w0.heap.size w0 w1 → Box3 bp bh bn paid hold 0 w1 → Kd.C k44 w1 A1 c.f5.length c.f5 → c.f5.length ≤ c1 → how c = some (c2, m) → Calls Try.prog n (#[.agg #[.int .u64 c.f0, .int .u64 c.f1, .int .u64 c.f2, .int .u64 c.f3, .int .u64 c.f4, .slice A1 c.f5.length c1, .bool c.f6]] ++ caps.toArray) w1 fun e w2 => ∃ A6 c6, e = .returned (.tuple #[.agg #[.int .u64 c2.f0, .int .u64 c2.f1, .int .u64 c2.f2, .int .u64 c2.f3, .int .u64 c2.f4, .slice A6 c2.f5.length c6, .bool c2.f6], .int .i64 0]) ∧ Ch w2 w0.heap.size c2 [.int .u64 c2.f0, .int .u64 c2.f1, .int .u64 c2.f2, .int .u64 c2.f3, .int .u64 c2.f4, .slice A6 c2.f5.length c6, .bool c2.f6] ∧ Below w0.heap.size w0 w2 ∧ w2.heap[bn]? = some (.cells #[.int .u64 m] 22 (0, 0))
set_option maxHeartbeats 16000000 in
set_option maxRecDepth 100000 in
theorem ledger_change.callsN (k : Nat) (A0 : Option Addr) (c0 : Nat) (l : List S25) (id : Int) (p1 p2 p3 : Value) (bp bh bn : Nat) (paid : Bool) (hold : Int) (how : S25 → Option (S25 × Int)) (r : List S25) (n : Int) (w0 w : World) (hB : Below w0.heap.size w0 w) (hr0 : Kd.C k25 w0 A0 l.length l) (hc0 : l.length ≤ c0) (hbox : Box3 bp bh bn paid hold 0 w) (hw : HowN w0 bp bh bn paid hold 112 [p1, p2, p3] how) (h : ledger_change.gN k l id how = some (r, n)) :
    Calls Try.prog 110 #[.slice A0 l.length c0, .int .u64 id, .func (.func 112) #[] #[p1, p2, p3]] w fun e w' => ∃ v : Value, e = .returned (.tuple #[v, .int .i64 0]) ∧ Own25 w' w0.heap.size v r ∧ Below w0.heap.size w0 w' ∧ w'.heap[bn]? = some (.cells #[.int .u64 n] 22 (0, 0)) := by
  have HR0 := aM_ hr0
  have HC0 := aM_ hc0
  have HW := aM_ hw
  have HX3 := aM_ hbox
  have HB := aM_ hB
  clear hr0 hc0 hw hbox hB
  unfold ledger_change.gN at h
  obtain ⟨⟨pi, pe⟩, h1, h_⟩ := oB_ h
  replace h := h_
  clear h_
  have HF1 := aM_ h1
  clear h1
  dsimp only at h
  by_cases hpe : pe = 0
  case neg => rw [if_neg hpe] at h; cases h
  subst hpe
  rw [if_pos rfl] at h
  by_cases hpi : 0 ≤ pi ∧ pi < (l.length : Int)
  case neg => rw [if_neg hpi] at h; cases h
  rw [if_pos hpi] at h
  obtain ⟨hp0, hp1⟩ := hpi
  obtain ⟨i, rfl⟩ := Int.eq_ofNat_of_zero_le hp0
  have hi : i < l.length := by omega
  obtain ⟨ad, A5, c5, ea, hx0, hx1, hx2, hx3, hx4, hx5, hx6, hl5, hi5⟩ := at_T25 (Kd.C_below HR0.out HB.out) (i : Int) (by omega) (by omega)
  subst ea
  obtain ⟨c, hc⟩ : ∃ c, c = rd_T25 l (i : Int) := ⟨_, rfl⟩
  rw [← hc] at h
  simp only [← hc, Int.toNat_natCast] at hx0 hx1 hx2 hx3 hx4 hx5 hx6 hl5 hi5
  have HL5 := aM_ hl5
  have HI5 := aM_ hi5
  clear hl5 hi5 hc
  obtain ⟨⟨c2, n2⟩, h1, h_⟩ := oB_ h
  replace h := h_
  clear h_
  have HF2 := aM_ h1
  clear h1
  dsimp only at h
  obtain ⟨m, h1, h_⟩ := oB_ h
  replace h := h_
  clear h_
  have HF3 := aM_ h1
  clear h1
  have hm : m = l := owns_eq HF3.out
  subst hm
  injection h with h
  injection h with hh1 hh2
  subst hh1 hh2
  rw [Int.toNat_natCast]
  obtain ⟨x, hx⟩ : ∃ x, m[i]? = some x := ⟨_, List.getElem?_eq_getElem hi⟩
  have HX := aM_ hx
  have HI := aM_ hi
  clear hx hi
  go_enter Try.func110, Try.ntmps110
  go_wp2_with (first | (go_at_call 104; refine (ledger_place.calls k (some ad) c0 m id (i : Int) 0 _ (Kd.C_below HR0.out HB.out) HC0.out HF1.out).mono ?_; rintro e w1 ⟨rfl, hb⟩; clear HF1; replace HB := aM_ (below_step HB.out hb); replace HX3 := aM_ (HX3.out.below hb); replace hx0 := (hb.cell (World.block_lt_of_cell? _ _ hx0)).trans hx0; replace hx1 := (hb.cell (World.block_lt_of_cell? _ _ hx1)).trans hx1; replace hx2 := (hb.cell (World.block_lt_of_cell? _ _ hx2)).trans hx2; replace hx3 := (hb.cell (World.block_lt_of_cell? _ _ hx3)).trans hx3; replace hx4 := (hb.cell (World.block_lt_of_cell? _ _ hx4)).trans hx4; replace hx5 := (hb.cell (World.block_lt_of_cell? _ _ hx5)).trans hx5; replace hx6 := (hb.cell (World.block_lt_of_cell? _ _ hx6)).trans hx6; replace HI5 := aM_ (Kd.C_below HI5.out hb); clear hb) | (go_at_call 112; refine (HW.out c A5 c5 c2 n2 _ HB.out HX3.out HI5.out HL5.out HF2.out).mono ?_; rintro e w2 ⟨A6, c6, rfl, ho, hb, hn⟩; clear HF2; have HO := aM_ ho; have HN := aM_ hn; replace HB := aM_ hb; clear ho hb hn hx0 hx1 hx2 hx3 hx4 hx5 hx6) | (go_at_call 102; go_loud (have hal := (Below.refl w2.heap.size w2).alloc (Nat.le_refl _) (.cells #[.int .u64 c2.f0, .int .u64 c2.f1, .int .u64 c2.f2, .int .u64 c2.f3, .int .u64 c2.f4, .slice A6 c2.f5.length c6, .bool c2.f6] 25); have HBL := aM_ (HB.out.alloc HB.out.size (.cells #[.int .u64 c2.f0, .int .u64 c2.f1, .int .u64 c2.f2, .int .u64 c2.f3, .int .u64 c2.f4, .slice A6 c2.f5.length c6, .bool c2.f6] 25)); have HK := aM_ (blk_new w2 (.cells #[.int .u64 c2.f0, .int .u64 c2.f1, .int .u64 c2.f2, .int .u64 c2.f3, .int .u64 c2.f4, .slice A6 c2.f5.length c6, .bool c2.f6] 25)); have HNL := aM_ (blk_below HN.out hal); refine (ledger_owns.calls (some ad) c0 m m _ (Kd.C_below HR0.out HBL.out) HC0.out HF3.out).mono ?_; rintro e w3 ⟨v, rfl, ho, hb⟩; clear HF3; have HB3 := aM_ (below_step HBL.out hb); replace HK := aM_ (blk_below HK.out hb); replace HN := aM_ (blk_below HNL.out hb); have HCH := aM_ ((HO.out.below hal).below hb); obtain ⟨rows, hR, hrl, hrx⟩ := ho; have HR := aM_ (Kd.R_lower hR HBL.out.size); have HRL := aM_ hrl; have HRX : Aside0 (Rows25 w3 w0.heap.size m rows) := ⟨fun j x hj => by obtain ⟨cs, q1, q2⟩ := hrx j x hj; exact ⟨cs, q1, q2.mono HBL.out.size⟩⟩; obtain ⟨g, cap, hv, hbg, hgl, cur, hblk⟩ := Kd.R_form HR.out (by have := HRL.out; have := HI.out; omega); subst hv; obtain ⟨cs, q1, q2⟩ := HRX.out i x HX.out; obtain ⟨A7, c7, hcs, _⟩ := q2; have hCr := (Kd.R_reads' HR.out).2.2; obtain ⟨ad2, ea2, hcell⟩ := hCr.2.2 (by have := HRL.out; have := HI.out; omega); injection ea2 with ea2; subst ea2; obtain ⟨c', r1, r2, r3⟩ := hcell i cs q1; have e1 : c' = cs := r2.1; subst e1; have HCC : Aside0 (∀ j u, c'[j]? = some u → w3.cell? ⟨g, i * 7 + j, none⟩ = some u) := ⟨fun j u hj => by have := r3 j u hj; rw [add_plain] at this; exact this⟩; subst hcs; rw [HRL.out]; have HGL := aM_ hgl; have HBK := aM_ hblk; obtain ⟨hz0, hz1, hz2, hz3, hz4, hz5, hz6, hz7, hz8, hz9, hz10, hz11, hz12, hz13⟩ := cz7_ HK.out; clear hal HB HBL HNL hb hR hrl hrx hbg hgl hblk q1 hCr hcell r1 r2 r3 HO)) | ((with_reducible refine gate_ (.store 25 (.tmp 37) (.tmp 36)) rfl ?_); refine Kd.R_store (Kd.raw 7) (w0 := w0) w0.heap.size rfl rfl 25 (.tmp 37) (.tmp 36) rfl 25 (i : Int) 0 rows [.int .u64 c2.f0, .int .u64 c2.f1, .int .u64 c2.f2, .int .u64 c2.f3, .int .u64 c2.f4, .slice A6 c2.f5.length c6, .bool c2.f6] (.agg #[.int .u64 c2.f0, .int .u64 c2.f1, .int .u64 c2.f2, .int .u64 c2.f3, .int .u64 c2.f4, .slice A6 c2.f5.length c6, .bool c2.f6]) [.int .u64 c2.f0, .int .u64 c2.f1, .int .u64 c2.f2, .int .u64 c2.f3, .int .u64 c2.f4, .slice A6 c2.f5.length c6, .bool c2.f6] [.int .u64 x.f0, .int .u64 x.f1, .int .u64 x.f2, .int .u64 x.f3, .int .u64 x.f4, .slice A7 x.f5.length c7, .bool x.f6] (fun _ => True) (fun _ => False) rfl (by rw [Int.toNat_natCast]; rfl) rfl rfl (by kernel_rfl) (by intro q hq; simp at hq; rcases hq with rfl | rfl | rfl | rfl | rfl | rfl | rfl <;> rfl) HR.out (by omega) (by have := HRL.out; have := HI.out; omega) rfl (fun j u hj => by rw [Int.toNat_natCast]; exact HCC.out j u hj) (Nat.le_refl _) ⟨rfl, rfl, (by intro q hq; simp at hq; rcases hq with rfl | rfl | rfl | rfl | rfl | rfl | rfl <;> rfl)⟩ (fun _ hk => hk.elim) HB3.out ?_; intro w4 ho3 hb3 hg3; rw [Int.toNat_natCast, HRL.out] at ho3; have HR3 := aM_ ho3; have HB4 := aM_ hb3; have HH3 := aM_ (Rows25.set (i := i) HRX.out HCH.out hg3 HBK.out); replace HN := aM_ ((hg3.block _ (blk_lt HN.out) (by intro e; injection e with e; exact blk_ne HN.out HBK.out (by decide) e)).trans HN.out); clear ho3 hb3 hg3))
  go_ret2
  exact ⟨_, rfl, ⟨_, HR3.out, by rw [List.length_set, List.length_set]; exact HRL.out, HH3.out⟩, HB4.out, HN.out⟩
theorem ledger_change.mono_gN (l : List S25) (id : Int) (h1 h2 : S25 → Option (S25 × Int)) (hm : ∀ c, LeO (h1 c) (h2 c)) (k : Nat) : LeO (ledger_change.gN k l id h1) (ledger_change.gN (k + 1) l id h2) := by
  unfold ledger_change.gN
  repeat' first
    | (with_reducible exact LeO.refl _)
    | exact hm _
    | apply ledger_place.mono
    | (with_reducible refine LeO.ite ?_ ?_)
    | (with_reducible refine LeO.bind ?_ (fun _ => ?_))
def ledger_End.how (k : Nat) (hold : Int) (paid : Bool) (c : S25) : Option (S25 × Int) := (if paid = true then channel_Settle.f k c.f0 c.f1 c.f2 c.f3 c.f4 c.f5 c.f6 hold else channel_Fail.f k c.f0 c.f1 c.f2 c.f3 c.f4 c.f5 c.f6 hold).bind fun r => if r.2.2.2.2.2.2.2.2 = 0 then some (⟨r.1, r.2.1, r.2.2.1, r.2.2.2.1, r.2.2.2.2.1, r.2.2.2.2.2.1, r.2.2.2.2.2.2.1⟩, r.2.2.2.2.2.2.2.1) else none
set_option maxHeartbeats 16000000 in
set_option maxRecDepth 100000 in
theorem ledger_End.hows (k : Nat) (hold : Int) (paid : Bool) (bp bh bn : Nat) (w0 : World) (hbn : w0.heap.size ≤ bn) :
    HowN w0 bp bh bn paid hold 112 [.pointer (some ⟨bp, 0, none⟩), .pointer (some ⟨bh, 0, none⟩), .pointer (some ⟨bn, 0, none⟩)] (ledger_End.how k hold paid) := by
  intro c A1 c1 c2 m w1 hb hX hC hl h
  have HI5 := aM_ hC
  have HL5 := aM_ hl
  have HB := aM_ hb
  have HX3 := aM_ hX
  have HBN := aM_ hbn
  have hb1 : w1.cell? ⟨bp, 0, none⟩ = some (.bool paid) := (blk_cell hX.p 0).trans rfl
  have hb2 : w1.cell? ⟨bh, 0, none⟩ = some (.int .u64 hold) := (blk_cell hX.h 0).trans rfl
  have HNL := aM_ (blk_lt hX.n)
  have hlt1 : bp < w1.heap.size := blk_lt hX.p
  have hlt2 : bh < w1.heap.size := blk_lt hX.h
  clear hC hl hb hX hbn
  unfold ledger_End.how at h
  show Calls Try.prog 112 #[.agg #[.int .u64 c.f0, .int .u64 c.f1, .int .u64 c.f2, .int .u64 c.f3, .int .u64 c.f4, .slice A1 c.f5.length c1, .bool c.f6], .pointer (some ⟨bp, 0, none⟩), .pointer (some ⟨bh, 0, none⟩), .pointer (some ⟨bn, 0, none⟩)] w1 _
  cases paid with
  | false =>
    simp only [reduceIte, Bool.false_eq_true] at h
    obtain ⟨⟨r1, r2, r3, r4, r5, r6, r7, m_, re⟩, h1, h_⟩ := oB_ h
    replace h := h_
    clear h_
    have HF2 := aM_ h1
    clear h1
    try dsimp only at h
    by_cases hre : re = 0
    case neg => rw [if_neg hre] at h; cases h
    subst hre
    rw [if_pos rfl] at h
    injection h with h
    injection h with hh1 hh2
    subst hh1 hh2
    go_enter Try.func112, Try.ntmps112
    go_upto_region 5 with (go_at_call 24; have hal := (Below.refl w1.heap.size w1).alloc (Nat.le_refl _) (.cells #[.int .u64 c.f0, .int .u64 c.f1, .int .u64 c.f2, .int .u64 c.f3, .int .u64 c.f4, .slice A1 c.f5.length c1, .bool c.f6] 25); have hal2 := hal.alloc hal.size (.cells #[.int .u64 0, .int .u64 0, .int .u64 0, .int .u64 0, .int .u64 0, .slice none 0 0, .bool false] 25); have HBa := aM_ (below_step HB.out hal2); clear HB; have HB := HBa; clear HBa; have HK5 := aM_ (blk_new2 w1 (.cells #[.int .u64 c.f0, .int .u64 c.f1, .int .u64 c.f2, .int .u64 c.f3, .int .u64 c.f4, .slice A1 c.f5.length c1, .bool c.f6] 25) (.cells #[.int .u64 0, .int .u64 0, .int .u64 0, .int .u64 0, .int .u64 0, .slice none 0 0, .bool false] 25)); replace HX3 := aM_ (HX3.out.below hal2); refine (channel_Fail.calls k c.f0 c.f1 c.f2 c.f3 c.f4 A1 c1 c.f5 c.f6 hold r1 r2 r3 r4 r5 r6 r7 m_ 0 _ (Kd.C_below HI5.out hal2) HL5.out HF2.out).mono ?_; rintro e w3 ⟨v5, rfl, ho, hb⟩; clear HF2; obtain ⟨An, cn, hv⟩ := Kd.R_slice ho; subst hv; have HR := aM_ (Kd.R_bound ho); have HS2 := aM_ HB.out.size; have HS := aM_ (blk_lt HK5.out); clear hb1 hb2 hlt1 hlt2; replace HB := aM_ (below_step HB.out hb); replace HX3 := aM_ (HX3.out.below hb); replace HK5 := aM_ (blk_below HK5.out hb); obtain ⟨hy0, hy1, hy2, hy3, hy4, hy5, hy6, hy7, hy8, hy9, hy10, hy11, hy12, hy13⟩ := cz7_ HK5.out; have hn0 : w3.cell? ⟨bn, 0, none⟩ = some (.int .u64 0) := (blk_cell HX3.out.n 0).trans rfl; have hn1 := blk_frozen HX3.out.n 0; have hne1 : ¬ bn = w1.heap.size + 1 := (by have := HNL.out; omega); have hne2 : ¬ w1.heap.size + 1 = bn := (by have := HNL.out; omega); clear hal hal2 ho hb)
    have K6 : ((((((((w3.setCell ⟨w1.heap.size + 1, 0, none⟩ (.int .u64 r1)).setCell ⟨w1.heap.size + 1, 1, none⟩ (.int .u64 r2)).setCell ⟨w1.heap.size + 1, 2, none⟩ (.int .u64 r3)).setCell ⟨w1.heap.size + 1, 3, none⟩ (.int .u64 r4)).setCell ⟨w1.heap.size + 1, 4, none⟩ (.int .u64 r5)).setCell ⟨w1.heap.size + 1, 5, none⟩ (.slice An r6.length cn)).setCell ⟨w1.heap.size + 1, 6, none⟩ (.bool r7)).setCell ⟨bn, 0, none⟩ (.int .u64 m_)).heap[w1.heap.size + 1]? = some (.cells #[.int .u64 r1, .int .u64 r2, .int .u64 r3, .int .u64 r4, .int .u64 r5, .slice An r6.length cn, .bool r7] 25 (0, 0)) := blk_far (put7_self (w := w3) (c := (⟨r1, r2, r3, r4, r5, r6, r7⟩ : S25)) (v := .slice An r6.length cn) HK5.out) hne2 _
    have KN : ((((((((w3.setCell ⟨w1.heap.size + 1, 0, none⟩ (.int .u64 r1)).setCell ⟨w1.heap.size + 1, 1, none⟩ (.int .u64 r2)).setCell ⟨w1.heap.size + 1, 2, none⟩ (.int .u64 r3)).setCell ⟨w1.heap.size + 1, 3, none⟩ (.int .u64 r4)).setCell ⟨w1.heap.size + 1, 4, none⟩ (.int .u64 r5)).setCell ⟨w1.heap.size + 1, 5, none⟩ (.slice An r6.length cn)).setCell ⟨w1.heap.size + 1, 6, none⟩ (.bool r7)).setCell ⟨bn, 0, none⟩ (.int .u64 m_)).heap[bn]? = some (.cells #[.int .u64 m_] 22 (0, 0)) := blk_set (put7_far (w := w3) (c := (⟨r1, r2, r3, r4, r5, r6, r7⟩ : S25)) (v := .slice An r6.length cn) HX3.out.n hne1) 0 (.int .u64 m_)
    have HB4 : Below w0.heap.size w0 ((((((((w3.setCell ⟨w1.heap.size + 1, 0, none⟩ (.int .u64 r1)).setCell ⟨w1.heap.size + 1, 1, none⟩ (.int .u64 r2)).setCell ⟨w1.heap.size + 1, 2, none⟩ (.int .u64 r3)).setCell ⟨w1.heap.size + 1, 3, none⟩ (.int .u64 r4)).setCell ⟨w1.heap.size + 1, 4, none⟩ (.int .u64 r5)).setCell ⟨w1.heap.size + 1, 5, none⟩ (.slice An r6.length cn)).setCell ⟨w1.heap.size + 1, 6, none⟩ (.bool r7)).setCell ⟨bn, 0, none⟩ (.int .u64 m_)) := (put7_below (w := w3) (g := w1.heap.size + 1) (c := (⟨r1, r2, r3, r4, r5, r6, r7⟩ : S25)) (v := .slice An r6.length cn) HB.out (by have := HNL.out; have := HBN.out; omega)).setCell (p := ⟨bn, 0, none⟩) HBN.out (.int .u64 m_)
    have HR4 := Kd.R_far (p := ⟨bn, 0, none⟩) (put7_R (w := w3) (g := w1.heap.size + 1) (c := (⟨r1, r2, r3, r4, r5, r6, r7⟩ : S25)) (v := .slice An r6.length cn) HR.out (fun k_ hk => by have := HS.out; have := hk.2.1; omega)) (fun k_ hk => by have := HS.out; have := HNL.out; have := hk.2.1; show k_ ≠ bn; omega) (.int .u64 m_)
    unfold put7 at HR4
    clear hy0 hy1 hy2 hy3 hy4 hy5 hy6 hy7 hy8 hy9 hy10 hy11 hy12 hy13 hn0 hn1 HR HB HX3 HK5
    generalize ((((((((w3.setCell ⟨w1.heap.size + 1, 0, none⟩ (.int .u64 r1)).setCell ⟨w1.heap.size + 1, 1, none⟩ (.int .u64 r2)).setCell ⟨w1.heap.size + 1, 2, none⟩ (.int .u64 r3)).setCell ⟨w1.heap.size + 1, 3, none⟩ (.int .u64 r4)).setCell ⟨w1.heap.size + 1, 4, none⟩ (.int .u64 r5)).setCell ⟨w1.heap.size + 1, 5, none⟩ (.slice An r6.length cn)).setCell ⟨w1.heap.size + 1, 6, none⟩ (.bool r7)).setCell ⟨bn, 0, none⟩ (.int .u64 m_)) = w4 at K6 KN HB4 HR4 ⊢
    have HK6 := aM_ K6
    have HKN := aM_ KN
    have HBX := aM_ HB4
    have HRX := aM_ HR4
    obtain ⟨hy0, hy1, hy2, hy3, hy4, hy5, hy6, hy7, hy8, hy9, hy10, hy11, hy12, hy13⟩ := cz7_ K6
    clear K6 KN HB4 HR4
    go_wp2
    have hR7 := put7_R (w := w4) (g := w1.heap.size + 1) (c := (⟨r1, r2, r3, r4, r5, r6, r7⟩ : S25)) (v := .slice An r6.length cn) HRX.out (fun k_ hk => by have := HS.out; have := hk.2.1; omega)
    refine bodyPost_ret (results_ct rfl _ _ (w1.heap.size + 1) 25 #[.int .u64 r1, .int .u64 r2, .int .u64 r3, .int .u64 r4, .int .u64 r5, .slice An r6.length cn, .bool r7] (0, 0) _ rfl (put7_self (w := w4) (c := (⟨r1, r2, r3, r4, r5, r6, r7⟩ : S25)) (v := .slice An r6.length cn) HK6.out) Try.underlying25 rfl (by kernel_rfl)) rfl ?_
    exact ⟨An, cn, rfl, ⟨An, cn, rfl, (Kd.R_reads' hR7).2.1, (Kd.R_reads' hR7).2.2, row44_of_R hR7 HS2.out⟩, put7_below (c := (⟨r1, r2, r3, r4, r5, r6, r7⟩ : S25)) (v := .slice An r6.length cn) HBX.out (by have := HNL.out; have := HBN.out; omega), put7_far (c := (⟨r1, r2, r3, r4, r5, r6, r7⟩ : S25)) (v := .slice An r6.length cn) HKN.out hne1⟩
  | true =>
    simp only [reduceIte] at h
    obtain ⟨⟨r1, r2, r3, r4, r5, r6, r7, m_, re⟩, h1, h_⟩ := oB_ h
    replace h := h_
    clear h_
    have HF2 := aM_ h1
    clear h1
    try dsimp only at h
    by_cases hre : re = 0
    case neg => rw [if_neg hre] at h; cases h
    subst hre
    rw [if_pos rfl] at h
    injection h with h
    injection h with hh1 hh2
    subst hh1 hh2
    go_enter Try.func112, Try.ntmps112
    go_upto_region 5 with (go_at_call 25; have hal := (Below.refl w1.heap.size w1).alloc (Nat.le_refl _) (.cells #[.int .u64 c.f0, .int .u64 c.f1, .int .u64 c.f2, .int .u64 c.f3, .int .u64 c.f4, .slice A1 c.f5.length c1, .bool c.f6] 25); have hal2 := hal.alloc hal.size (.cells #[.int .u64 0, .int .u64 0, .int .u64 0, .int .u64 0, .int .u64 0, .slice none 0 0, .bool false] 25); have HBa := aM_ (below_step HB.out hal2); clear HB; have HB := HBa; clear HBa; have HK5 := aM_ (blk_new2 w1 (.cells #[.int .u64 c.f0, .int .u64 c.f1, .int .u64 c.f2, .int .u64 c.f3, .int .u64 c.f4, .slice A1 c.f5.length c1, .bool c.f6] 25) (.cells #[.int .u64 0, .int .u64 0, .int .u64 0, .int .u64 0, .int .u64 0, .slice none 0 0, .bool false] 25)); replace HX3 := aM_ (HX3.out.below hal2); refine (channel_Settle.calls k c.f0 c.f1 c.f2 c.f3 c.f4 A1 c1 c.f5 c.f6 hold r1 r2 r3 r4 r5 r6 r7 m_ 0 _ (Kd.C_below HI5.out hal2) HL5.out HF2.out).mono ?_; rintro e w3 ⟨v5, rfl, ho, hb⟩; clear HF2; obtain ⟨An, cn, hv⟩ := Kd.R_slice ho; subst hv; have HR := aM_ (Kd.R_bound ho); have HS2 := aM_ HB.out.size; have HS := aM_ (blk_lt HK5.out); clear hb1 hb2 hlt1 hlt2; replace HB := aM_ (below_step HB.out hb); replace HX3 := aM_ (HX3.out.below hb); replace HK5 := aM_ (blk_below HK5.out hb); obtain ⟨hy0, hy1, hy2, hy3, hy4, hy5, hy6, hy7, hy8, hy9, hy10, hy11, hy12, hy13⟩ := cz7_ HK5.out; have hn0 : w3.cell? ⟨bn, 0, none⟩ = some (.int .u64 0) := (blk_cell HX3.out.n 0).trans rfl; have hn1 := blk_frozen HX3.out.n 0; have hne1 : ¬ bn = w1.heap.size + 1 := (by have := HNL.out; omega); have hne2 : ¬ w1.heap.size + 1 = bn := (by have := HNL.out; omega); clear hal hal2 ho hb)
    have K6 : ((((((((w3.setCell ⟨w1.heap.size + 1, 0, none⟩ (.int .u64 r1)).setCell ⟨w1.heap.size + 1, 1, none⟩ (.int .u64 r2)).setCell ⟨w1.heap.size + 1, 2, none⟩ (.int .u64 r3)).setCell ⟨w1.heap.size + 1, 3, none⟩ (.int .u64 r4)).setCell ⟨w1.heap.size + 1, 4, none⟩ (.int .u64 r5)).setCell ⟨w1.heap.size + 1, 5, none⟩ (.slice An r6.length cn)).setCell ⟨w1.heap.size + 1, 6, none⟩ (.bool r7)).setCell ⟨bn, 0, none⟩ (.int .u64 m_)).heap[w1.heap.size + 1]? = some (.cells #[.int .u64 r1, .int .u64 r2, .int .u64 r3, .int .u64 r4, .int .u64 r5, .slice An r6.length cn, .bool r7] 25 (0, 0)) := blk_far (put7_self (w := w3) (c := (⟨r1, r2, r3, r4, r5, r6, r7⟩ : S25)) (v := .slice An r6.length cn) HK5.out) hne2 _
    have KN : ((((((((w3.setCell ⟨w1.heap.size + 1, 0, none⟩ (.int .u64 r1)).setCell ⟨w1.heap.size + 1, 1, none⟩ (.int .u64 r2)).setCell ⟨w1.heap.size + 1, 2, none⟩ (.int .u64 r3)).setCell ⟨w1.heap.size + 1, 3, none⟩ (.int .u64 r4)).setCell ⟨w1.heap.size + 1, 4, none⟩ (.int .u64 r5)).setCell ⟨w1.heap.size + 1, 5, none⟩ (.slice An r6.length cn)).setCell ⟨w1.heap.size + 1, 6, none⟩ (.bool r7)).setCell ⟨bn, 0, none⟩ (.int .u64 m_)).heap[bn]? = some (.cells #[.int .u64 m_] 22 (0, 0)) := blk_set (put7_far (w := w3) (c := (⟨r1, r2, r3, r4, r5, r6, r7⟩ : S25)) (v := .slice An r6.length cn) HX3.out.n hne1) 0 (.int .u64 m_)
    have HB4 : Below w0.heap.size w0 ((((((((w3.setCell ⟨w1.heap.size + 1, 0, none⟩ (.int .u64 r1)).setCell ⟨w1.heap.size + 1, 1, none⟩ (.int .u64 r2)).setCell ⟨w1.heap.size + 1, 2, none⟩ (.int .u64 r3)).setCell ⟨w1.heap.size + 1, 3, none⟩ (.int .u64 r4)).setCell ⟨w1.heap.size + 1, 4, none⟩ (.int .u64 r5)).setCell ⟨w1.heap.size + 1, 5, none⟩ (.slice An r6.length cn)).setCell ⟨w1.heap.size + 1, 6, none⟩ (.bool r7)).setCell ⟨bn, 0, none⟩ (.int .u64 m_)) := (put7_below (w := w3) (g := w1.heap.size + 1) (c := (⟨r1, r2, r3, r4, r5, r6, r7⟩ : S25)) (v := .slice An r6.length cn) HB.out (by have := HNL.out; have := HBN.out; omega)).setCell (p := ⟨bn, 0, none⟩) HBN.out (.int .u64 m_)
    have HR4 := Kd.R_far (p := ⟨bn, 0, none⟩) (put7_R (w := w3) (g := w1.heap.size + 1) (c := (⟨r1, r2, r3, r4, r5, r6, r7⟩ : S25)) (v := .slice An r6.length cn) HR.out (fun k_ hk => by have := HS.out; have := hk.2.1; omega)) (fun k_ hk => by have := HS.out; have := HNL.out; have := hk.2.1; show k_ ≠ bn; omega) (.int .u64 m_)
    unfold put7 at HR4
    clear hy0 hy1 hy2 hy3 hy4 hy5 hy6 hy7 hy8 hy9 hy10 hy11 hy12 hy13 hn0 hn1 HR HB HX3 HK5
    generalize ((((((((w3.setCell ⟨w1.heap.size + 1, 0, none⟩ (.int .u64 r1)).setCell ⟨w1.heap.size + 1, 1, none⟩ (.int .u64 r2)).setCell ⟨w1.heap.size + 1, 2, none⟩ (.int .u64 r3)).setCell ⟨w1.heap.size + 1, 3, none⟩ (.int .u64 r4)).setCell ⟨w1.heap.size + 1, 4, none⟩ (.int .u64 r5)).setCell ⟨w1.heap.size + 1, 5, none⟩ (.slice An r6.length cn)).setCell ⟨w1.heap.size + 1, 6, none⟩ (.bool r7)).setCell ⟨bn, 0, none⟩ (.int .u64 m_)) = w4 at K6 KN HB4 HR4 ⊢
    have HK6 := aM_ K6
    have HKN := aM_ KN
    have HBX := aM_ HB4
    have HRX := aM_ HR4
    obtain ⟨hy0, hy1, hy2, hy3, hy4, hy5, hy6, hy7, hy8, hy9, hy10, hy11, hy12, hy13⟩ := cz7_ K6
    clear K6 KN HB4 HR4
    go_wp2
    have hR7 := put7_R (w := w4) (g := w1.heap.size + 1) (c := (⟨r1, r2, r3, r4, r5, r6, r7⟩ : S25)) (v := .slice An r6.length cn) HRX.out (fun k_ hk => by have := HS.out; have := hk.2.1; omega)
    refine bodyPost_ret (results_ct rfl _ _ (w1.heap.size + 1) 25 #[.int .u64 r1, .int .u64 r2, .int .u64 r3, .int .u64 r4, .int .u64 r5, .slice An r6.length cn, .bool r7] (0, 0) _ rfl (put7_self (w := w4) (c := (⟨r1, r2, r3, r4, r5, r6, r7⟩ : S25)) (v := .slice An r6.length cn) HK6.out) Try.underlying25 rfl (by kernel_rfl)) rfl ?_
    exact ⟨An, cn, rfl, ⟨An, cn, rfl, (Kd.R_reads' hR7).2.1, (Kd.R_reads' hR7).2.2, row44_of_R hR7 HS2.out⟩, put7_below (c := (⟨r1, r2, r3, r4, r5, r6, r7⟩ : S25)) (v := .slice An r6.length cn) HBX.out (by have := HNL.out; have := HBN.out; omega), put7_far (c := (⟨r1, r2, r3, r4, r5, r6, r7⟩ : S25)) (v := .slice An r6.length cn) HKN.out hne1⟩
def ledger_End.g (k : Nat) (l : List S25) (hold : Int) (paid : Bool) : Option (List S25 × Int × Int) := (ledger_Where.f k l hold).bind fun q => if q.2 = 0 then (ledger_change.gN k l q.1 (ledger_End.how k hold paid)).bind fun z => some (z.1, z.2, 0) else some ([], 0, q.2)
theorem ledger_End.boxes (w : World) (hold : Int) (paid : Bool) : Below w.heap.size w (((w.alloc (.cells #[.int .u64 hold] 22)).alloc (.cells #[.bool paid] 4)).alloc (.cells #[.int .u64 0] 22)) ∧ Box3 (w.heap.size + 1) w.heap.size (w.heap.size + 2) paid hold 0 (((w.alloc (.cells #[.int .u64 hold] 22)).alloc (.cells #[.bool paid] 4)).alloc (.cells #[.int .u64 0] 22)) := by
  have b1 := (Below.refl w.heap.size w).alloc (Nat.le_refl _) (.cells #[.int .u64 hold] 22)
  have b2 := b1.alloc b1.size (.cells #[.bool paid] 4)
  have b3 := b2.alloc b2.size (.cells #[.int .u64 0] 22)
  have s1 : (w.alloc (.cells #[.int .u64 hold] 22)).heap.size = w.heap.size + 1 := by simp
  have s2 : ((w.alloc (.cells #[.int .u64 hold] 22)).alloc (.cells #[.bool paid] 4)).heap.size = w.heap.size + 2 := by simp
  have k1 := blk_below (blk_new w (.cells #[.int .u64 hold] 22)) ((Below.refl _ (w.alloc (.cells #[.int .u64 hold] 22))).alloc (Nat.le_refl _) (.cells #[.bool paid] 4))
  have c2 := (Below.refl _ ((w.alloc (.cells #[.int .u64 hold] 22)).alloc (.cells #[.bool paid] 4))).alloc (Nat.le_refl _) (.cells #[.int .u64 0] 22)
  have k3 := blk_new ((w.alloc (.cells #[.int .u64 hold] 22)).alloc (.cells #[.bool paid] 4)) (.cells #[.int .u64 0] 22)
  rw [s2] at k3
  exact ⟨b3, blk_below (blk_new2 w (.cells #[.int .u64 hold] 22) (.cells #[.bool paid] 4)) c2, blk_below k1 c2, k3⟩
theorem results_tct {fn : Func} {u p x : Tmp} (h : fn.results = #[.tmp u, .cell p 22, .tmp x]) (tmps : Array Value) (w : World) (g : Nat) (n : Int)
    (hp : tmps.getD p undef = .pointer (some ⟨g, 0, none⟩)) (hc : w.cell? ⟨g, 0, none⟩ = some (.int .u64 n)) : (results fn tmps).run Try.prog w = .ok (.tuple #[tmps.getD u undef, .int .u64 n, tmps.getD x undef]) w := by
  have hp' : tmps[p]?.getD undef = .pointer (some ⟨g, 0, none⟩) := by simpa using hp
  have hl : (loadVar 22 ⟨g, 0, none⟩).run Try.prog w = .ok (.int .u64 n) w := by
    have hagg : (isAgg 22).run Try.prog w = .ok false w := by
      unfold isAgg
      rw [Sem.run_bind, run_underlying Try.underlying22 w]
      simp
    simp [loadVar, Sem.run_bind, hagg, hc]
  simp [results, h, hp', asAddr, hl]
theorem Ch.set22 {w : World} {B g : Nat} {x : S25} {cs : List Value} {cs' : Array Value} (h : Ch w B x cs) (hg : w.heap[g]? = some (.cells cs' 22 (0, 0))) (i : Nat) (u : Value) : Ch (w.setCell ⟨g, i, none⟩ u) B x cs := by
  obtain ⟨A, c, h1, h2, h3, h4⟩ := h
  rcases h4 with h0 | ⟨g1, c1, cur1, e, hB, hblk, hz⟩
  · exact ⟨A, c, h1, h2, C44_nil h3 (List.length_eq_zero_iff.mp h0), .inl h0⟩
  · injection e with e1 e2 e3
    subst e1 e3
    have hs : (w.setCell ⟨g, i, none⟩ u).heap[g1]? = w.heap[g1]? := (blk_far hblk (blk_ne hblk hg (by decide)) u).trans hblk.symm
    exact ⟨_, _, h1, h2, C44_blk h3 hs, .inr ⟨g1, _, cur1, rfl, hB, hs.trans hblk, hz⟩⟩
theorem ledger_End.own_set {w : World} {B g : Nat} {v : Value} {xs : List S25} {cs : Array Value} (h : Own25 w B v xs) (hg : w.heap[g]? = some (.cells cs 22 (0, 0))) (i : Nat) (u : Value) : Own25 (w.setCell ⟨g, i, none⟩ u) B v xs := by
  obtain ⟨rows, hR, hl, hx⟩ := h
  refine ⟨rows, raw_any (Kd.R_far (p := ⟨g, i, none⟩) (raw_ok hR) (fun k hk => ?_) u), hl, fun j x hj => by obtain ⟨c0, q1, q2⟩ := hx j x hj; exact ⟨c0, q1, q2.set22 hg i u⟩⟩
  obtain ⟨cur, hc⟩ := Kd.R_typed (raw_ok hR) k hk
  exact blk_ne hc hg (by decide)
set_option maxHeartbeats 16000000 in
set_option maxRecDepth 100000 in
theorem ledger_End.callsS (k : Nat) (A0 : Option Addr) (c0 : Nat) (l : List S25) (hold : Int) (paid : Bool) (r : List S25) (n er : Int) (w : World) (hr0 : Kd.C k25 w A0 l.length l) (hc0 : l.length ≤ c0) (h : ledger_End.g k l hold paid = some (r, n, er)) :
    Calls Try.prog 58 #[.slice A0 l.length c0, .int .u64 hold, .bool paid] w fun e w' => ∃ v : Value, e = .returned (.tuple #[v, .int .u64 n, .int .i64 er]) ∧ Own25 w' w.heap.size v r ∧ Below w.heap.size w w' := by
  have HR0 := aM_ hr0
  have HC0 := aM_ hc0
  clear hr0 hc0
  have HX := aM_ (ledger_End.boxes w hold paid)
  unfold ledger_End.g at h
  obtain ⟨⟨q1, q2⟩, h1, h_⟩ := oB_ h
  replace h := h_
  clear h_
  have HF1 := aM_ h1
  clear h1
  try dsimp only at h
  by_cases hq : q2 = 0
  case neg =>
    rw [if_neg hq] at h
    have hqb : (q2 != 0) = true := bne_iff_ne.mpr hq
    clear hq
    injection h with h
    injection h with hh1 hh2
    injection hh2 with hh2 hh3
    subst hh1 hh2 hh3
    go_enter Try.func58, Try.ntmps58
    go_wp2_with (go_at_call 50; go_loud (refine (ledger_Where.calls k A0 c0 l hold q1 q2 _ (Kd.C_below HR0.out HX.out.1) HC0.out HF1.out).mono ?_; rintro e w1 ⟨rfl, hb⟩; clear HF1; have HB := aM_ (below_step HX.out.1 hb); have HX3 := aM_ (HX.out.2.below hb); obtain ⟨hn0, hn1⟩ := cz1_ HX3.out.n; clear hb))
    refine bodyPost_ret (results_tct rfl _ _ (w.heap.size + 2) 0 rfl ((blk_cell (blk_set HX3.out.n 0 (.int .u64 0)) 0).trans rfl)) rfl ?_
    exact ⟨_, rfl, Own25.nil _ _, HB.out.setCell (p := ⟨w.heap.size + 2, 0, none⟩) (Nat.le_add_right _ 2) _⟩
  subst hq
  rw [if_pos rfl] at h
  obtain ⟨⟨z1, z2⟩, h1, h_⟩ := oB_ h
  replace h := h_
  clear h_
  have HF2 := aM_ h1
  clear h1
  try dsimp only at h
  injection h with h
  injection h with hh1 hh2
  injection hh2 with hh2 hh3
  subst hh1 hh2 hh3
  go_enter Try.func58, Try.ntmps58
  go_wp2_with (first | (go_at_call 50; go_loud (refine (ledger_Where.calls k A0 c0 l hold q1 0 _ (Kd.C_below HR0.out HX.out.1) HC0.out HF1.out).mono ?_; rintro e w1 ⟨rfl, hb⟩; clear HF1; have HB := aM_ (below_step HX.out.1 hb); have HX3 := aM_ (HX.out.2.below hb); obtain ⟨hn0, hn1⟩ := cz1_ HX3.out.n; clear hb)) | (go_at_call 110; go_loud (clear hn0 hn1; refine (ledger_change.callsN k A0 c0 l q1 (.pointer (some ⟨w.heap.size + 1, 0, none⟩)) (.pointer (some ⟨w.heap.size, 0, none⟩)) (.pointer (some ⟨w.heap.size + 2, 0, none⟩)) (w.heap.size + 1) w.heap.size (w.heap.size + 2) paid hold (ledger_End.how k hold paid) z1 z2 w _ HB.out HR0.out HC0.out HX3.out (ledger_End.hows k hold paid (w.heap.size + 1) w.heap.size (w.heap.size + 2) w (by omega)) HF2.out).mono ?_; rintro e w2 ⟨v, rfl, ho, hb, hn⟩; clear HF2 HB HX3; have HB := aM_ hb; have HO := aM_ ho; have HN := aM_ hn; clear ho hb hn)))
  replace HB := aM_ (below_drew1 HB.out)
  replace HN := aM_ (blk_drew HN.out)
  replace HO := aM_ (HO.out.below (below_drew1 (Below.refl w2.heap.size w2)))
  refine start_ (n := 6) (S := fun w' => w'.cell? ⟨w.heap.size + 2, 0, none⟩ = some (.int .u64 z2) ∧ w'.frozen? ⟨w.heap.size + 2, 0, none⟩ = false) (ds := []) #[false, false, false, false, false, false] (by kernel_rfl) rfl rfl ⟨(cz1_ HN.out).1, (cz1_ HN.out).2⟩ (fun hHeld => ?_)
  generalize w2.drew = wd at HB HO HN hHeld ⊢
  refine pure_ (i := 0) (N := some 26) (v := ?_) (a' := ?_) #[true, false, false, false, false, false] rfl rfl (by kernel_rfl) (fun _ _ _ h => h) (Or.inl ⟨by rfl, ?_⟩) ?_ ?_
  rotate_left
  · intro w'
    go_simp
    with_reducible rfl
  rotate_left
  · simp only [Act.put, List.setIfInBounds_toArray, List.set_cons_zero, List.set_cons_succ, i64_w, i32_w]
    rfl
  refine take_ (i := 1) (N := some 27) (v := ?_) (a' := ?_) #[true, true, false, false, false, false] rfl rfl (by kernel_rfl) (fun _ _ _ h => h) (Or.inl ⟨by rfl, ?_⟩) hHeld ?_ ?_
  rotate_left
  · rintro w' ⟨s0, s1⟩
    go_simp
    with_reducible rfl
  rotate_left
  · simp only [Act.put, List.setIfInBounds_toArray, List.set_cons_zero, List.set_cons_succ, i64_w, i32_w]
    rfl
  refine pure_ (i := 2) (N := some 28) (v := ?_) (a' := ?_) #[true, true, true, false, false, false] rfl rfl (by kernel_rfl) (fun _ _ _ h => h) (Or.inl ⟨by rfl, ?_⟩) ?_ ?_
  rotate_left
  · intro w'
    go_simp
    with_reducible rfl
  rotate_left
  · simp only [Act.put, List.setIfInBounds_toArray, List.set_cons_zero, List.set_cons_succ, i64_w, i32_w]
    rfl
  refine pure_ (i := 3) (N := some 6) (v := ?_) (a' := ?_) #[true, true, true, true, false, false] rfl rfl (by kernel_rfl) (fun _ _ _ h => h) (Or.inl ⟨by rfl, ?_⟩) ?_ ?_
  rotate_left
  · intro w'
    go_simp
    with_reducible rfl
  rotate_left
  · simp only [Act.put, List.setIfInBounds_toArray, List.set_cons_zero, List.set_cons_succ, i64_w, i32_w]
    rfl
  refine one_ (i := 4) (N := none) #[true, true, true, true, true, false] rfl rfl (by kernel_rfl) (by decide) (fun K hK => ?_)
  obtain ⟨hs0, hs1⟩ := cz1_ HN.out
  refine skip_ (w1 := (wd.setCell ⟨w.heap.size + 2, 0, none⟩ (.int .u64 z2))) (by rfl) rfl ?_ ?_
  · ((go_simp; done))
  clear hs0 hs1
  have hset := blk_set HN.out 0 (.int .u64 z2)
  have hne := HN.out
  replace HB := aM_ (HB.out.setCell (p := ⟨w.heap.size + 2, 0, none⟩) (Nat.le_add_right _ 2) (.int .u64 z2))
  replace HO := aM_ (ledger_End.own_set HO.out hne 0 (.int .u64 z2))
  replace HN := aM_ hset
  clear hset hne
  generalize wd.setCell ⟨w.heap.size + 2, 0, none⟩ (.int .u64 z2) = we at HB HO HN ⊢
  refine hK.out _ _ ⟨(cz1_ HN.out).1, (cz1_ HN.out).2⟩ (fun hHeld => ?_)
  clear hK K
  refine pure_ (i := 5) (N := some 8) (v := ?_) (a' := ?_) #[true, true, true, true, true, true] rfl rfl (by kernel_rfl) (fun _ _ _ h => h) (Or.inl ⟨by rfl, ?_⟩) ?_ ?_
  rotate_left
  · intro w'
    go_simp
    with_reducible rfl
  rotate_left
  · simp only [Act.put, List.setIfInBounds_toArray, List.set_cons_zero, List.set_cons_succ, i64_w, i32_w]
    rfl
  refine done_ (by kernel_rfl) ?_
  go_wp2
  refine bodyPost_ret (results_tct rfl _ _ (w.heap.size + 2) z2 rfl (cz1_ HN.out).1) rfl ?_
  exact ⟨_, rfl, HO.out, HB.out⟩
theorem ledger_End.mono_how (hold : Int) (paid : Bool) (c : S25) (k : Nat) : LeO (ledger_End.how k hold paid c) (ledger_End.how (k + 1) hold paid c) := by
  unfold ledger_End.how
  repeat' first
    | (with_reducible exact LeO.refl _)
    | apply channel_Settle.mono
    | apply channel_Fail.mono
    | (with_reducible refine LeO.ite ?_ ?_)
    | (with_reducible refine LeO.bind ?_ (fun _ => ?_))
theorem ledger_End.mono_g (l : List S25) (hold : Int) (paid : Bool) (k : Nat) : LeO (ledger_End.g k l hold paid) (ledger_End.g (k + 1) l hold paid) := by
  unfold ledger_End.g
  repeat' first
    | (with_reducible exact LeO.refl _)
    | apply ledger_Where.mono
    | exact ledger_change.mono_gN l _ _ _ (fun c => ledger_End.mono_how hold paid c k) k
    | (with_reducible refine LeO.ite ?_ ?_)
    | (with_reducible refine LeO.bind ?_ (fun _ => ?_))

/-! ### damsonref09_Copy: function 38 -/
def damsonref09_Copy.f (a0_0 : Int) (a0_1 : Int) (a0_2 : Int) (a0_3 : Int) (a0_4 : Int) (l0_5 : List (S44)) (a0_6 : Bool) : Option (Int × Int × Int × Int × Int × (List (S44)) × Bool) := if ([] : List (S44)).length + l0_5.length < 8796093022208 then (some (a0_0, a0_1, a0_2, a0_3, a0_4, (([] : List (S44)) ++ l0_5), a0_6)) else (none)
set_option maxHeartbeats 8000000 in
set_option maxRecDepth 100000 in
theorem damsonref09_Copy.calls (a0_0 : Int) (a0_1 : Int) (a0_2 : Int) (a0_3 : Int) (a0_4 : Int) (A0_5 : Option Addr) (c0_5 : Nat) (l0_5 : List (S44)) (a0_6 : Bool) (r1 : Int) (r2 : Int) (r3 : Int) (r4 : Int) (r5 : Int) (r6 : List (S44)) (r7 : Bool) (w : World) (hr0_5 : Kd.C k44 w A0_5 l0_5.length l0_5) (hc0_5 : l0_5.length ≤ c0_5) (h : damsonref09_Copy.f a0_0 a0_1 a0_2 a0_3 a0_4 l0_5 a0_6 = some (r1, r2, r3, r4, r5, r6, r7)) :
    Calls Try.prog 38 #[.agg #[.int .u64 a0_0, .int .u64 a0_1, .int .u64 a0_2, .int .u64 a0_3, .int .u64 a0_4, .slice A0_5 l0_5.length c0_5, .bool a0_6]] w fun e w' => ∃ v5_ : Value, e = .returned (.agg #[.int .u64 r1, .int .u64 r2, .int .u64 r3, .int .u64 r4, .int .u64 r5, v5_, .bool r7]) ∧ Kd.R k44 44 w' w.heap.size (fun _ => True) v5_ r6 ∧ Below w.heap.size w w' := by
  have hu25 := Try.underlying25
  have HR0_5 := aM_ hr0_5
  have HC0_5 := aM_ hc0_5
  clear hr0_5 hc0_5
  have HB := aM_ (Below.refl w.heap.size w)
  have H : (if ([] : List (S44)).length + l0_5.length < 8796093022208 then (some (a0_0, a0_1, a0_2, a0_3, a0_4, (([] : List (S44)) ++ l0_5), a0_6)) else (none)) = some (r1, r2, r3, r4, r5, r6, r7) := h
  clear h
  by_cases c2 : ([] : List (S44)).length + l0_5.length < 8796093022208
  · rw [if_pos c2] at H
    have LMc2 := aM_ c2
    clear c2
    obtain ⟨y236, hy236⟩ : ∃ y_ : List (S44), y_ = (([] : List (S44)) ++ l0_5) := ⟨_, rfl⟩
    replace H : (some (a0_0, a0_1, a0_2, a0_3, a0_4, y236, a0_6)) = some (r1, r2, r3, r4, r5, r6, r7) := by ((rw [hy236]; with_reducible exact H))
    have Ny236 := aM_ hy236
    clear hy236
    simp only [Option.some.injEq, Prod.mk.injEq] at H
    obtain ⟨rfl, rfl, rfl, rfl, rfl, rfl, rfl⟩ := H
    go_enter Try.func38, Try.ntmps38
    go_wp2_with (first | ((with_reducible refine gate_dst (N := 1) rfl ?_); refine box_event ?hg (N := 1) ?hd (cs := #[.int .u64 a0_0, .int .u64 a0_1, .int .u64 a0_2, .int .u64 a0_3, .int .u64 a0_4, .slice A0_5 l0_5.length c0_5, .bool a0_6]) (t := 25) ?hr ?_; (case hd => rfl); (case hg => rfl); (case hr => ((go_simp; done))); intro gb234 hg w3 hbox hb; have BK234 := aM_ (hbox); have GW234 := aM_ (geN HB hg); have GE234 := aM_ (geN HB hg); replace HB := bsA_ HB hb; clear hb hbox hg) | ((with_reducible refine gate_dst (N := 2) rfl ?_); refine box_event ?hg (N := 2) ?hd (cs := #[.int .u64 0, .int .u64 0, .int .u64 0, .int .u64 0, .int .u64 0, .slice none 0 0, .bool false]) (t := 25) ?hr ?_; (case hd => rfl); (case hg => rfl); (case hr => ((go_simp; done))); intro gb235 hg w4 hbox hb; have BK235 := aM_ (hbox); have GW235 := aM_ (geN HB hg); have GE235 := aM_ (geN HB hg); replace HB := bsA_ HB hb; have NB234_235 := aM_ (neN BK234 hg); have NB235_234 := aM_ (neN' BK234 hg); replace BK234 := bbA_ BK234 hb; clear hb hbox hg; have hnb5 := NB234_235.out; have hnc5 := NB235_234.out; obtain ⟨hcz6_0, hcz6_1, hcz6_2, hcz6_3, hcz6_4, hcz6_5, hcz6_6, hfz6_0, hfz6_1, hfz6_2, hfz6_3, hfz6_4, hfz6_5, hfz6_6⟩ := cz7_ (w := w4) BK234.out) | ((with_reducible refine gate_builtin (b := .append) (xs := #[.const (.slice none 0 0), .tmp 4]) rfl ?_); at_builtin; refine Kd.R_append_rows k44 (w0 := w) w.heap.size rfl (.const (.slice none 0 0)) (.tmp 4) 23 44 (.agg #[(.int .u64 0), (.int .u64 0)]) 16 rfl Try.underlying23 info44 rfl (by decide) (by omega) (.slice none 0 0) ([] : List (S44)) l0_5 _ _ _ (fun _ => True) (fun _ => False) rfl rfl ?aO ?aR (fun _ _ h => h) (fun _ h => h.elim) ?aF ?aB ?aS ?aL ?_; (case aR => repeat ((exact (Kd.C_below HR0_5.out HB.out)))); (case aB => exact (belN HB)); (case aF => exact (fun _ _ => trivial)); (case aO => exact ((Kd.R_nil _ _ _ _ (fun _ => True)))); (case aS => exact (below_size (belN HB))); (case aL => have := LMc2.out; omega); intro v237 w7 ho hb hg hat; rw [← Ny236.out] at ho; replace BK234 := aM_ (blk_grown (g := gb234) (blkN BK234) hg (by simp [Value.ownBlock])); replace BK235 := aM_ (blk_grown (g := gb235) (blkN BK235) hg (by simp [Value.ownBlock])); replace HB := aM_ (hb); have HO238 := aM_ (ho); clear ho hb hg hat; obtain ⟨Ao8, co8, eo8⟩ := Kd.R_slice HO238.out; subst eo8; obtain ⟨hcz9_0, hcz9_1, hcz9_2, hcz9_3, hcz9_4, hcz9_5, hcz9_6, hfz9_0, hfz9_1, hfz9_2, hfz9_3, hfz9_4, hfz9_5, hfz9_6⟩ := cz7_ (w := w7) BK234.out; obtain ⟨hcz10_0, hcz10_1, hcz10_2, hcz10_3, hcz10_4, hcz10_5, hcz10_6, hfz10_0, hfz10_1, hfz10_2, hfz10_3, hfz10_4, hfz10_5, hfz10_6⟩ := cz7_ (w := w7) BK235.out))
    refine bodyPost_ret (results_cell_row rfl _ _ gb235 25 #[.int .u64 a0_0, .int .u64 a0_1, .int .u64 a0_2, .int .u64 a0_3, .int .u64 a0_4, .slice Ao8 y236.length co8, .bool a0_6] (0, 0) _ rfl (by apply bp7_; refine blk_far ?_ NB235_234.out _; exact BK235.out) Try.underlying25 rfl (by kernel_rfl)) rfl ?_
    exact ⟨_, by (rfl), by exact Kd.R_mono (Kd.R_far (p := ⟨gb235, 6, none⟩) (Kd.R_far (p := ⟨gb235, 5, none⟩) (Kd.R_far (p := ⟨gb235, 4, none⟩) (Kd.R_far (p := ⟨gb235, 3, none⟩) (Kd.R_far (p := ⟨gb235, 2, none⟩) (Kd.R_far (p := ⟨gb235, 1, none⟩) (Kd.R_far (p := ⟨gb235, 0, none⟩) (Kd.R_far (p := ⟨gb234, 5, none⟩) (Kd.R_types (Kd.R_types HO238.out BK234.out (by decide)) BK235.out (by decide)) (fun _ hk => hk.1.2) (.slice Ao8 y236.length co8)) (fun _ hk => hk.2) (.int .u64 a0_0)) (fun _ hk => hk.2) (.int .u64 a0_1)) (fun _ hk => hk.2) (.int .u64 a0_2)) (fun _ hk => hk.2) (.int .u64 a0_3)) (fun _ hk => hk.2) (.int .u64 a0_4)) (fun _ hk => hk.2) (.slice Ao8 y236.length co8)) (fun _ hk => hk.2) (.bool a0_6)) (fun _ hk => trivial), by repeat (((with_reducible first | exact HB.out | refine below_set ?_ GE234.out | refine below_set ?_ GE235.out)))⟩
  · rw [if_neg c2] at H
    exact absurd H (by simp)

/-! ### damsonref10_Copy: function 59 -/
def damsonref10_Copy.l0 : Nat → List (S25) → List (S25) → Int → Int → Option ((List (S25)))
  | 0, _, _, _, _ => none
  | k + 1, x3, x6, x7, x8 => if x8 < x7 then (if 0 ≤ x8 then (if x8 < (x6.length : Int) then ((damsonref09_Copy.f ((rd_T25 x6 x8).f0) ((rd_T25 x6 x8).f1) ((rd_T25 x6 x8).f2) ((rd_T25 x6 x8).f3) ((rd_T25 x6 x8).f4) ((rd_T25 x6 x8).f5) ((rd_T25 x6 x8).f6)).bind fun bt241 => (if x3.length < 1954687338268 then (damsonref10_Copy.l0 k (x3 ++ [(⟨bt241.1, bt241.2.1, bt241.2.2.1, bt241.2.2.2.1, bt241.2.2.2.2.1, bt241.2.2.2.2.2.1, bt241.2.2.2.2.2.2⟩ : S25)]) x6 x7 (wrap64 (x8 + 1))) else (none))) else (none)) else (none)) else (some x3)
def damsonref10_Copy.f (k : Nat) (l0 : List (S25)) : Option ((List (S25))) := damsonref10_Copy.l0 k ([] : List (S25)) l0 (l0.length : Int) 0
theorem damsonref10_Copy.mono_l : ∀ k, (∀ y0 y1 y2 y3, LeO (damsonref10_Copy.l0 k y0 y1 y2 y3) (damsonref10_Copy.l0 (k + 1) y0 y1 y2 y3))
  | 0 => fun _ _ _ _ r h => by simp [damsonref10_Copy.l0] at h
  | k + 1 => by
    have ih0 := damsonref10_Copy.mono_l k
    · intro y0 y1 y2 y3
      unfold damsonref10_Copy.l0
      repeat' first
      | (with_reducible exact ih0 _ _ _ _)
      | (with_reducible exact LeO.refl _)
      | (with_reducible refine LeO.ite ?_ ?_)
      | (with_reducible refine LeO.bind ?_ (fun _ => ?_))
      | exact ih0 _ _ _ _
      | exact LeO.none _
      | refine LeO.ite ?_ ?_
      | refine LeO.bind ?_ (fun _ => ?_)
theorem damsonref10_Copy.mono : ∀ a0 k, LeO (damsonref10_Copy.f k a0) (damsonref10_Copy.f (k + 1) a0) := by
  intro a0 k
  have ih0 := damsonref10_Copy.mono_l k
  unfold damsonref10_Copy.f
  repeat' first
      | (with_reducible exact ih0 _ _ _ _)
      | exact ih0 _ _ _ _
      | exact LeO.none _
      | refine LeO.ite ?_ ?_
      | refine LeO.bind ?_ (fun _ => ?_)
set_option maxHeartbeats 8000000 in
set_option maxRecDepth 100000 in
theorem damsonref10_Copy.calls (k : Nat) (A0 : Option Addr) (c0 : Nat) (l0 : List (S25)) (r : List (S25)) (w : World) (hr0 : Kd.C k25 w A0 l0.length l0) (hc0 : l0.length ≤ c0) (h : damsonref10_Copy.f k l0 = some r) :
    Calls Try.prog 59 #[.slice A0 l0.length c0] w fun e w' => ∃ v0_ : Value, e = .returned (v0_) ∧ Kd.S k25 25 w' w.heap.size (fun _ => True) v0_ r ∧ Below w.heap.size w w' := by
  have hu25 := Try.underlying25
  have HR0 := aM_ hr0
  have HC0 := aM_ hc0
  clear hr0 hc0
  have HB := aM_ (Below.refl w.heap.size w)
  have H : (damsonref10_Copy.l0 k ([] : List (S25)) l0 (l0.length : Int) 0) = some r := h
  clear h
  have H' := aM_ H
  clear H
  go_enter Try.func59, Try.ntmps59
  go_wp2
  go_loopg [3, 8] k (fun kq v3 v8 w' => ∃ (x3_1 : List (S25)) (x8_1 : Int), v8 = .int .i64 x8_1 ∧ Aside0 (damsonref10_Copy.l0 kq x3_1 l0 (l0.length : Int) x8_1 = some r) ∧ Aside0 (kq ≤ k) ∧ Aside0 (Kd.S k25 25 w' w.heap.size (fun _ => True) v3 x3_1) ∧ Aside0 (Below w.heap.size w w'))
  case atStart => exact ⟨(([] : List (S25))), (0), (by (rfl)), H', ⟨Nat.le_refl _⟩, ⟨by (exact Kd.S_nil _ _ _ _ _)⟩, ⟨by repeat (((with_reducible (exact HB.out))))⟩⟩
  case round =>
    clear H'
    obtain ⟨x3_1, x8_1, rfl, HA, HK1, HO_3, HB⟩ := hrel
    cases gk with
    | zero => exact absurd HA.out (by simp [damsonref10_Copy.l0])
    | succ k1 =>
      have H := HA.out
      clear HA
      simp only [damsonref10_Copy.l0] at H
      by_cases c2 : x8_1 < (l0.length : Int)
      · rw [if_pos c2] at H
        have c2b0 := decide_eq_true c2
        clear c2
        by_cases c3 : 0 ≤ x8_1
        · rw [if_pos c3] at H
          have c3b0 := decide_eq_true c3
          clear c3
          by_cases c4 : x8_1 < (l0.length : Int)
          · rw [if_pos c4] at H
            have c4b0 := decide_eq_true c4
            clear c4
            replace H := oB_ H
            obtain ⟨⟨t241, t242, t243, t244, t245, t246, t249⟩, A50, H⟩ := H
            replace H : (if x3_1.length < 1954687338268 then (damsonref10_Copy.l0 k1 (x3_1 ++ [(⟨t241, t242, t243, t244, t245, t246, t249⟩ : S25)]) l0 (l0.length : Int) (wrap64 (x8_1 + 1))) else (none)) = some r := H
            have A5 := aM_ A50
            clear A50
            by_cases c6 : x3_1.length < 1954687338268
            · rw [if_pos c6] at H
              have LMc6 := aM_ c6
              clear c6
              obtain ⟨y250, hy250⟩ : ∃ y_ : List (S25), y_ = (x3_1 ++ [(⟨t241, t242, t243, t244, t245, t246, t249⟩ : S25)]) := ⟨_, rfl⟩
              replace H : (damsonref10_Copy.l0 k1 y250 l0 (l0.length : Int) (wrap64 (x8_1 + 1))) = some r := by ((rw [hy250]; with_reducible exact H))
              have Ny250 := aM_ hy250
              clear hy250
              have H' := aM_ H
              clear H
              have p239 : 0 ≤ (x8_1 : Int) := of_decide_eq_true (by ((with_reducible assumption)))
              have q239 : x8_1 < (l0.length : Int) := of_decide_eq_true (by ((with_reducible assumption)))
              obtain ⟨ad239, A239_5, c239_5, e239, hx239_0, hx239_1, hx239_2, hx239_3, hx239_4, hx239_5, hx239_6, hl239_5, hi239_5⟩ := at_T25 HR0.out x8_1 p239 q239
              cases e239
              replace hx239_0 := cN_ HB hx239_0
              replace hx239_1 := cN_ HB hx239_1
              replace hx239_2 := cN_ HB hx239_2
              replace hx239_3 := cN_ HB hx239_3
              replace hx239_4 := cN_ HB hx239_4
              replace hx239_5 := cN_ HB hx239_5
              replace hx239_6 := cN_ HB hx239_6
              have HR239_5 := aM_ hi239_5
              have HC239_5 := aM_ hl239_5
              clear hi239_5 hl239_5
              replace p239 := eq_true p239
              replace q239 := eq_true q239
              go_wp2_with (first | ((with_reducible refine gate_dst (N := 5) rfl ?_); refine box_event ?hg (N := 5) ?hd (cs := #[.int .u64 0, .int .u64 0, .int .u64 0, .int .u64 0, .int .u64 0, .slice none 0 0, .bool false]) (t := 25) ?hr ?_; (case hd => rfl); (case hg => rfl); (case hr => ((go_simp; done))); intro gb240 hg w7 hbox hb; replace HO_3 := aM_ (Kd.S_below (Kd.S_elderB (by exact HO_3.out) gb240 (Nat.le_of_eq hg.symm)) hb); have BK240 := aM_ (hbox); have GW240 := aM_ (geN HB hg); have GE240 := aM_ (geN HB hg); replace HB := bsA_ HB hb; clear hb hbox hg; obtain ⟨hcz8_0, hcz8_1, hcz8_2, hcz8_3, hcz8_4, hcz8_5, hcz8_6, hfz8_0, hfz8_1, hfz8_2, hfz8_3, hfz8_4, hfz8_5, hfz8_6⟩ := cz7_ (w := w7) BK240.out) | ((with_reducible refine gate_callee (f := 38) rfl ?_); refine gL_ 14 Try.func38 #[.agg #[.int .u64 ((rd_T25 l0 x8_1).f0), .int .u64 ((rd_T25 l0 x8_1).f1), .int .u64 ((rd_T25 l0 x8_1).f2), .int .u64 ((rd_T25 l0 x8_1).f3), .int .u64 ((rd_T25 l0 x8_1).f4), .slice A239_5 ((rd_T25 l0 x8_1).f5).length c239_5, .bool ((rd_T25 l0 x8_1).f6)]] ?_; (with_reducible refine (damsonref09_Copy.calls ((rd_T25 l0 x8_1).f0) ((rd_T25 l0 x8_1).f1) ((rd_T25 l0 x8_1).f2) ((rd_T25 l0 x8_1).f3) ((rd_T25 l0 x8_1).f4) _ _ ((rd_T25 l0 x8_1).f5) ((rd_T25 l0 x8_1).f6) t241 t242 t243 t244 t245 t246 t249 _ ?side1 ?side2 A5.out).mono ?_); (case side1 => exact Kd.C_below HR239_5.out (belN HB)); (case side2 => exact HC239_5.out); rintro e w9 ⟨v247, rfl, ho0, hb⟩; refine ⟨_, rfl, ?_⟩; replace HO_3 := aM_ (Kd.S_elder' (by exact (Kd.S_mono (Kd.S_far (p := ⟨gb240, 6, none⟩) (Kd.S_far (p := ⟨gb240, 5, none⟩) (Kd.S_far (p := ⟨gb240, 4, none⟩) (Kd.S_far (p := ⟨gb240, 3, none⟩) (Kd.S_far (p := ⟨gb240, 2, none⟩) (Kd.S_far (p := ⟨gb240, 1, none⟩) (Kd.S_far (p := ⟨gb240, 0, none⟩) (Kd.S_mono HO_3.out (fun k_ hk => (⟨hk, hk.2⟩ : _ ∧ k_ ≠ gb240))) (fun _ hk => hk.2) (.int .u64 ((rd_T25 l0 x8_1).f0))) (fun _ hk => hk.2) (.int .u64 ((rd_T25 l0 x8_1).f1))) (fun _ hk => hk.2) (.int .u64 ((rd_T25 l0 x8_1).f2))) (fun _ hk => hk.2) (.int .u64 ((rd_T25 l0 x8_1).f3))) (fun _ hk => hk.2) (.int .u64 ((rd_T25 l0 x8_1).f4))) (fun _ hk => hk.2) (.slice A239_5 ((rd_T25 l0 x8_1).f5).length c239_5)) (fun _ hk => hk.2) (.bool ((rd_T25 l0 x8_1).f6))) (fun _ h_ => h_.1))) (Kd.R_base ho0) hb); have HO248 := aM_ (Kd.R_lower ho0 (below_size (belN HB))); replace BK240 := aM_ (blk_below (g := gb240) (o := .cells #[.int .u64 ((rd_T25 l0 x8_1).f0), .int .u64 ((rd_T25 l0 x8_1).f1), .int .u64 ((rd_T25 l0 x8_1).f2), .int .u64 ((rd_T25 l0 x8_1).f3), .int .u64 ((rd_T25 l0 x8_1).f4), .slice A239_5 ((rd_T25 l0 x8_1).f5).length c239_5, .bool ((rd_T25 l0 x8_1).f6)] 25 (0, 0)) (by apply bp7_; exact BK240.out) hb); replace HB := bsA_ HB hb; (try clear hb); (try clear ho0); obtain ⟨Ao11, co11, eo11⟩ := Kd.R_slice HO248.out; subst eo11) | ((with_reducible refine gate_builtin (b := .append) (xs := #[.tmp 12, .tmp 15]) rfl ?_); at_builtin; refine Kd.S_append k25 (w0 := w) w.heap.size rfl (.tmp 12) (.tmp 15) 47 25 (.agg #[(.int .u64 0), (.int .u64 0), (.int .u64 0), (.int .u64 0), (.int .u64 0), (.slice none 0 0), (.bool false)]) 72 rfl Try.underlying47 info25 rfl (by decide) (by omega) u3 x3_1 (⟨t241, t242, t243, t244, t245, t246, t249⟩ : S25) [.int .u64 t241, .int .u64 t242, .int .u64 t243, .int .u64 t244, .int .u64 t245, .slice Ao11 t246.length co11, .bool t249] (fun k_ => k_ ≠ gb240) (fun k_ => some k_ = (.slice Ao11 t246.length co11 : Value).ownBlock) rfl rfl ?aP (fun k_ hk_ => ((Kd.R_mono (ok' := fun k_ => ((fun k_ => k_ ≠ gb240)) k_ ∧ some k_ ≠ (u3 : Value).ownBlock) (Kd.R_types (Kd.R_apart' (HO248.out) (Kd.S_typed HO_3.out) (by decide)) BK240.out (by decide)) (fun k_ hk => ⟨hk.2, hk.1.2⟩))).1 k_ hk_.symm) ?aF ?aO ?aB ?aS ?aL ?_; (case aP => exact k25_mkM _ _ _ (⟨t241, t242, t243, t244, t245, t246, t249⟩ : S25) (Kd.R_mono (Kd.R_tight rfl (Kd.R_mono (ok' := fun k_ => ((fun k_ => k_ ≠ gb240)) k_ ∧ some k_ ≠ (u3 : Value).ownBlock) (Kd.R_types (Kd.R_apart' (HO248.out) (Kd.S_typed HO_3.out) (by decide)) BK240.out (by decide)) (fun k_ hk => ⟨hk.2, hk.1.2⟩))) (fun _ h_ => h_))); (case aB => exact (belN HB)); (case aF => exact (fun k_ hk => Kd.freshB (g := gb240) (blkN BK240) k_ hk)); (case aO => exact (by exact Kd.S_mono HO_3.out (fun k_ hk => ⟨hk.1.2, fun e_ => hk.2 e_⟩))); (case aS => exact (below_size (belN HB))); (case aL => have := LMc6.out; omega); intro v251 w10 ho hb hg hat; rw [← Ny250.out] at ho; replace BK240 := aM_ (blk_grown (g := gb240) (blkN BK240) hg (Kd.S_away HO_3.out (fun _ hk => hk.1.2))); replace HB := aM_ (hb); have HO252 := aM_ (ho); clear HO_3 HO248; clear ho hb hg hat))
              go_roundg k1
              case measure => have := HK1.out; omega
              case rel => exact ⟨(y250), (wrap64 (x8_1 + 1)), (by (rfl)), H', ⟨by have := HK1.out; omega⟩, ⟨by exact Kd.S_mono HO252.out (fun _ hk => trivial)⟩, ⟨by repeat (((with_reducible (exact HB.out))))⟩⟩
            · rw [if_neg c6] at H
              exact absurd H (by simp)
          · rw [if_neg c4] at H
            exact absurd H (by simp)
        · rw [if_neg c3] at H
          exact absurd H (by simp)
      · rw [if_neg c2] at H
        have c2b0 := decide_eq_false c2
        clear c2
        obtain rfl := Option.some.inj H
        go_wp2
        go_ret
        exact ⟨_, by (rfl), by exact HO_3.out, by repeat (((with_reducible (exact HB.out))))⟩

/-! ### damsonref04_Check: function 96 -/
def damsonref04_Check.l0 : Nat → List Int → Int → Int → Option (Int)
  | 0, _, _, _ => none
  | k + 1, x5, x6, x7 => if x7 < x6 then (if 0 ≤ x7 then (if x7 < (x5.length : Int) then (if (rd x5 x7) > 4611686018427387904 then (some 1) else (damsonref04_Check.l0 k x5 x6 (wrap64 (x7 + 1)))) else (none)) else (none)) else (some 0)
def damsonref04_Check.f (k : Nat) (l0 : List Int) : Option (Int) := damsonref04_Check.l0 k l0 (l0.length : Int) 0
theorem damsonref04_Check.mono_l : ∀ k, (∀ y0 y1 y2, LeO (damsonref04_Check.l0 k y0 y1 y2) (damsonref04_Check.l0 (k + 1) y0 y1 y2))
  | 0 => fun _ _ _ r h => by simp [damsonref04_Check.l0] at h
  | k + 1 => by
    have ih0 := damsonref04_Check.mono_l k
    · intro y0 y1 y2
      unfold damsonref04_Check.l0
      repeat' first
      | (with_reducible exact ih0 _ _ _)
      | (with_reducible exact LeO.refl _)
      | (with_reducible refine LeO.ite ?_ ?_)
      | exact ih0 _ _ _
      | exact LeO.none _
      | refine LeO.ite ?_ ?_
      | refine LeO.bind ?_ (fun _ => ?_)
theorem damsonref04_Check.mono : ∀ a0 k, LeO (damsonref04_Check.f k a0) (damsonref04_Check.f (k + 1) a0) := by
  intro a0 k
  have ih0 := damsonref04_Check.mono_l k
  unfold damsonref04_Check.f
  repeat' first
      | (with_reducible exact ih0 _ _ _)
      | exact ih0 _ _ _
      | exact LeO.none _
      | refine LeO.ite ?_ ?_
      | refine LeO.bind ?_ (fun _ => ?_)
set_option maxHeartbeats 8000000 in
set_option maxRecDepth 100000 in
theorem damsonref04_Check.calls (k : Nat) (A0 : Option Addr) (c0 : Nat) (l0 : List Int) (r : Int) (w : World) (hr0 : Kd.C (Kd.int .u64) w A0 l0.length l0) (hc0 : l0.length ≤ c0) (h : damsonref04_Check.f k l0 = some r) :
    Calls Try.prog 96 #[.slice A0 l0.length c0] w fun e w' => e = .returned (.int .i64 r) ∧ Drawn0 w w' := by
  have HR0 := aM_ hr0
  have HC0 := aM_ hc0
  clear hr0 hc0
  have H : (damsonref04_Check.l0 k l0 (l0.length : Int) 0) = some r := h
  clear h
  have H' := aM_ H
  clear H
  go_enter Try.func96, Try.ntmps96
  go_wp2
  go_loopg [7] k (fun kq v7 w' => ∃ (x7_1 : Int), v7 = .int .i64 x7_1 ∧ Aside0 (damsonref04_Check.l0 kq l0 (l0.length : Int) x7_1 = some r) ∧ Aside0 (kq ≤ k) ∧ Drawn0 w w')
  case atStart => exact ⟨(0), (by (rfl)), H', ⟨Nat.le_refl _⟩, by repeat ((exact Drawn0.refl _))⟩
  case round =>
    clear H'
    obtain ⟨x7_1, rfl, HA, HK1, ⟨m1, rfl⟩⟩ := hrel
    cases gk with
    | zero => exact absurd HA.out (by simp [damsonref04_Check.l0])
    | succ k1 =>
      have H := HA.out
      clear HA
      simp only [damsonref04_Check.l0] at H
      by_cases c2 : x7_1 < (l0.length : Int)
      · rw [if_pos c2] at H
        have c2b0 := decide_eq_true c2
        clear c2
        by_cases c3 : 0 ≤ x7_1
        · rw [if_pos c3] at H
          have c3b0 := decide_eq_true c3
          clear c3
          by_cases c4 : x7_1 < (l0.length : Int)
          · rw [if_pos c4] at H
            have c4b0 := decide_eq_true c4
            clear c4
            by_cases c5 : (rd l0 x7_1) > 4611686018427387904
            · rw [if_pos c5] at H
              have c5b0 : decide (4611686018427387904 < (rd l0 x7_1)) = true := decide_eq_true c5
              clear c5
              obtain rfl := Option.some.inj H
              have p253 : 0 ≤ (x7_1 : Int) := of_decide_eq_true (by ((with_reducible assumption)))
              have q253 : x7_1 < (l0.length : Int) := of_decide_eq_true (by ((with_reducible assumption)))
              obtain ⟨ad253, e253, hx253_0⟩ := Kd.at_int HR0.out x7_1 p253 q253
              cases e253
              replace p253 := eq_true p253
              replace q253 := eq_true q253
              go_wp2
              go_ret
              exact ⟨by (rfl), by repeat (first | exact Drawn0.refl _ | apply Drawn0.step)⟩
            · rw [if_neg c5] at H
              have c5b0 : decide (4611686018427387904 < (rd l0 x7_1)) = false := decide_eq_false c5
              clear c5
              have H' := aM_ H
              clear H
              have p253 : 0 ≤ (x7_1 : Int) := of_decide_eq_true (by ((with_reducible assumption)))
              have q253 : x7_1 < (l0.length : Int) := of_decide_eq_true (by ((with_reducible assumption)))
              obtain ⟨ad253, e253, hx253_0⟩ := Kd.at_int HR0.out x7_1 p253 q253
              cases e253
              replace p253 := eq_true p253
              replace q253 := eq_true q253
              go_wp2
              go_roundg k1
              case measure => have := HK1.out; omega
              case rel => exact ⟨(wrap64 (x7_1 + 1)), (by (rfl)), H', ⟨by have := HK1.out; omega⟩, by repeat (first | exact Drawn0.refl _ | apply Drawn0.step)⟩
          · rw [if_neg c4] at H
            exact absurd H (by simp)
        · rw [if_neg c3] at H
          exact absurd H (by simp)
      · rw [if_neg c2] at H
        have c2b0 := decide_eq_false c2
        clear c2
        obtain rfl := Option.some.inj H
        go_wp2
        go_ret
        exact ⟨by (rfl), by repeat (first | exact Drawn0.refl _ | apply Drawn0.step)⟩

/-! ### damsonref04_Add: function 94 -/
def damsonref04_Add.l0 : Nat → Int → List Int → Int → Int → Option (Int × Int)
  | 0, _, _, _, _ => none
  | k + 1, x4, x10, x11, x12 => if x12 < x11 then (if 0 ≤ x12 then (if x12 < (x10.length : Int) then (if (rd x10 x12) > (IntKind.u64.wrap (4611686018427387904 - x4)) then (some (0, 8)) else (damsonref04_Add.l0 k (IntKind.u64.wrap (x4 + (rd x10 x12))) x10 x11 (wrap64 (x12 + 1)))) else (none)) else (none)) else (some (x4, 0))
def damsonref04_Add.f (k : Nat) (l0 : List Int) : Option (Int × Int) := (damsonref04_Check.f k l0).bind fun t254 => (if t254 = 0 then (damsonref04_Add.l0 k 0 l0 (l0.length : Int) 0) else (some (0, 1)))
theorem damsonref04_Add.mono_l : ∀ k, (∀ y0 y1 y2 y3, LeO (damsonref04_Add.l0 k y0 y1 y2 y3) (damsonref04_Add.l0 (k + 1) y0 y1 y2 y3))
  | 0 => fun _ _ _ _ r h => by simp [damsonref04_Add.l0] at h
  | k + 1 => by
    have ih0 := damsonref04_Add.mono_l k
    · intro y0 y1 y2 y3
      unfold damsonref04_Add.l0
      repeat' first
      | (with_reducible exact ih0 _ _ _ _)
      | (with_reducible exact LeO.refl _)
      | (with_reducible refine LeO.ite ?_ ?_)
      | exact ih0 _ _ _ _
      | exact damsonref04_Check.mono _ _
      | exact LeO.none _
      | refine LeO.ite ?_ ?_
      | refine LeO.bind ?_ (fun _ => ?_)
theorem damsonref04_Add.mono : ∀ a0 k, LeO (damsonref04_Add.f k a0) (damsonref04_Add.f (k + 1) a0) := by
  intro a0 k
  have ih0 := damsonref04_Add.mono_l k
  unfold damsonref04_Add.f
  repeat' first
      | (with_reducible exact ih0 _ _ _ _)
      | (with_reducible exact damsonref04_Check.mono _ _)
      | (with_reducible exact LeO.refl _)
      | (with_reducible refine LeO.ite ?_ ?_)
      | (with_reducible refine LeO.bind ?_ (fun _ => ?_))
      | exact ih0 _ _ _ _
      | exact damsonref04_Check.mono _ _
      | exact LeO.none _
      | refine LeO.ite ?_ ?_
      | refine LeO.bind ?_ (fun _ => ?_)
set_option maxHeartbeats 8000000 in
set_option maxRecDepth 100000 in
theorem damsonref04_Add.calls (k : Nat) (A0 : Option Addr) (c0 : Nat) (l0 : List Int) (r1 : Int) (r2 : Int) (w : World) (hr0 : Kd.C (Kd.int .u64) w A0 l0.length l0) (hc0 : l0.length ≤ c0) (h : damsonref04_Add.f k l0 = some (r1, r2)) :
    Calls Try.prog 94 #[.slice A0 l0.length c0] w fun e w' => e = .returned (.tuple #[.int .u64 r1, .int .i64 r2]) ∧ Drawn0 w w' := by
  have HR0 := aM_ hr0
  have HC0 := aM_ hc0
  clear hr0 hc0
  have H : ((damsonref04_Check.f k l0).bind fun t254 => (if t254 = 0 then (damsonref04_Add.l0 k 0 l0 (l0.length : Int) 0) else (some (0, 1)))) = some (r1, r2) := h
  clear h
  replace H := oB_ H
  obtain ⟨t254, A20, H⟩ := H
  replace H : (if t254 = 0 then (damsonref04_Add.l0 k 0 l0 (l0.length : Int) 0) else (some (0, 1))) = some (r1, r2) := H
  have A2 := aM_ A20
  clear A20
  by_cases c3 : t254 = 0
  · rw [if_pos c3] at H
    have c3b0 : (t254 == 0) = true := beq_iff_eq.mpr c3
    have c3b1 : (t254 != 0) = false := bne_eq_false_iff_eq.mpr c3
    clear c3
    have H' := aM_ H
    clear H
    go_enter Try.func94, Try.ntmps94
    go_wp2_with ((((with_reducible refine gate_callee (f := 96) rfl ?_); refine gL_ 8 Try.func96 #[.slice A0 l0.length c0] ?_; (with_reducible refine (damsonref04_Check.calls k _ _ l0 t254 _ ?side1 ?side2 A2.out).mono ?_); (case side1 => repeat ((exact HR0.out))); (case side2 => exact HC0.out); rintro e w' ⟨rfl, ⟨nd, rfl⟩⟩; refine ⟨_, rfl, ?_⟩)))
    go_loopg [4, 12] k (fun kq v4 v12 w' => ∃ (x4_1 : Int) (x12_1 : Int), v4 = .int .u64 x4_1 ∧ v12 = .int .i64 x12_1 ∧ Aside0 (damsonref04_Add.l0 kq x4_1 l0 (l0.length : Int) x12_1 = some (r1, r2)) ∧ Aside0 (kq ≤ k) ∧ Drawn0 w w')
    case atStart => exact ⟨(0), (0), (by (rfl)), (by (rfl)), H', ⟨Nat.le_refl _⟩, by repeat (first | exact Drawn0.refl _ | apply Drawn0.step)⟩
    case round =>
      clear H'
      try clear c3b0
      try clear c3b1
      obtain ⟨x4_1, x12_1, rfl, rfl, HA, HK1, ⟨m1, rfl⟩⟩ := hrel
      cases gk with
      | zero => exact absurd HA.out (by simp [damsonref04_Add.l0])
      | succ k1 =>
        have H := HA.out
        clear HA
        simp only [damsonref04_Add.l0] at H
        by_cases c4 : x12_1 < (l0.length : Int)
        · rw [if_pos c4] at H
          have c4b0 := decide_eq_true c4
          clear c4
          by_cases c5 : 0 ≤ x12_1
          · rw [if_pos c5] at H
            have c5b0 := decide_eq_true c5
            clear c5
            by_cases c6 : x12_1 < (l0.length : Int)
            · rw [if_pos c6] at H
              have c6b0 := decide_eq_true c6
              clear c6
              by_cases c7 : (rd l0 x12_1) > (IntKind.u64.wrap (4611686018427387904 - x4_1))
              · rw [if_pos c7] at H
                have c7b0 : decide ((IntKind.u64.wrap (4611686018427387904 - x4_1)) < (rd l0 x12_1)) = true := decide_eq_true c7
                clear c7
                simp only [Option.some.injEq, Prod.mk.injEq] at H
                obtain ⟨rfl, rfl⟩ := H
                have p255 : 0 ≤ (x12_1 : Int) := of_decide_eq_true (by ((with_reducible assumption)))
                have q255 : x12_1 < (l0.length : Int) := of_decide_eq_true (by ((with_reducible assumption)))
                obtain ⟨ad255, e255, hx255_0⟩ := Kd.at_int HR0.out x12_1 p255 q255
                cases e255
                replace p255 := eq_true p255
                replace q255 := eq_true q255
                go_wp2
                go_ret2
                exact ⟨by (rfl), by repeat (first | exact Drawn0.refl _ | apply Drawn0.step)⟩
              · rw [if_neg c7] at H
                have c7b0 : decide ((IntKind.u64.wrap (4611686018427387904 - x4_1)) < (rd l0 x12_1)) = false := decide_eq_false c7
                clear c7
                have H' := aM_ H
                clear H
                have p255 : 0 ≤ (x12_1 : Int) := of_decide_eq_true (by ((with_reducible assumption)))
                have q255 : x12_1 < (l0.length : Int) := of_decide_eq_true (by ((with_reducible assumption)))
                obtain ⟨ad255, e255, hx255_0⟩ := Kd.at_int HR0.out x12_1 p255 q255
                cases e255
                replace p255 := eq_true p255
                replace q255 := eq_true q255
                go_wp2
                go_roundg k1
                case measure => have := HK1.out; omega
                case rel => exact ⟨(IntKind.u64.wrap (x4_1 + (rd l0 x12_1))), (wrap64 (x12_1 + 1)), (by (rfl)), (by (rfl)), H', ⟨by have := HK1.out; omega⟩, by repeat (first | exact Drawn0.refl _ | apply Drawn0.step)⟩
            · rw [if_neg c6] at H
              exact absurd H (by simp)
          · rw [if_neg c5] at H
            exact absurd H (by simp)
        · rw [if_neg c4] at H
          have c4b0 := decide_eq_false c4
          clear c4
          simp only [Option.some.injEq, Prod.mk.injEq] at H
          obtain ⟨rfl, rfl⟩ := H
          go_wp2
          go_ret2
          exact ⟨by (rfl), by repeat (first | exact Drawn0.refl _ | apply Drawn0.step)⟩
  · rw [if_neg c3] at H
    have c3b0 : (t254 == 0) = false := beq_eq_false_iff_ne.mpr c3
    have c3b1 : (t254 != 0) = true := bne_iff_ne.mpr c3
    simp only [Option.some.injEq, Prod.mk.injEq] at H
    obtain ⟨rfl, rfl⟩ := H
    go_enter Try.func94, Try.ntmps94
    go_wp2_with ((((with_reducible refine gate_callee (f := 96) rfl ?_); refine gL_ 8 Try.func96 #[.slice A0 l0.length c0] ?_; (with_reducible refine (damsonref04_Check.calls k _ _ l0 t254 _ ?side1 ?side2 A2.out).mono ?_); (case side1 => repeat ((exact HR0.out))); (case side2 => exact HC0.out); rintro e w' ⟨rfl, ⟨nd, rfl⟩⟩; refine ⟨_, rfl, ?_⟩)))
    go_ret2
    exact ⟨by (rfl), by repeat (first | exact Drawn0.refl _ | apply Drawn0.step)⟩

/-! ### damsonref09_amounts: function 95 -/
def damsonref09_amounts.l0 : Nat → List Int → List (S44) → Int → Int → Option (List Int)
  | 0, _, _, _, _ => none
  | k + 1, x3, x6, x7, x8 => if x8 < x7 then (if 0 ≤ x8 then (if x8 < (x6.length : Int) then (if x3.length < 17592186044416 then (damsonref09_amounts.l0 k (x3 ++ [(rd_T44 x6 x8).f1]) x6 x7 (wrap64 (x8 + 1))) else (none)) else (none)) else (none)) else (some x3)
def damsonref09_amounts.f (k : Nat) (l0 : List (S44)) : Option (List Int) := damsonref09_amounts.l0 k ([] : List Int) l0 (l0.length : Int) 0
theorem damsonref09_amounts.mono_l : ∀ k, (∀ y0 y1 y2 y3, LeO (damsonref09_amounts.l0 k y0 y1 y2 y3) (damsonref09_amounts.l0 (k + 1) y0 y1 y2 y3))
  | 0 => fun _ _ _ _ r h => by simp [damsonref09_amounts.l0] at h
  | k + 1 => by
    have ih0 := damsonref09_amounts.mono_l k
    · intro y0 y1 y2 y3
      unfold damsonref09_amounts.l0
      repeat' first
      | (with_reducible exact ih0 _ _ _ _)
      | (with_reducible exact LeO.refl _)
      | (with_reducible refine LeO.ite ?_ ?_)
      | exact ih0 _ _ _ _
      | exact LeO.none _
      | refine LeO.ite ?_ ?_
      | refine LeO.bind ?_ (fun _ => ?_)
theorem damsonref09_amounts.mono : ∀ a0 k, LeO (damsonref09_amounts.f k a0) (damsonref09_amounts.f (k + 1) a0) := by
  intro a0 k
  have ih0 := damsonref09_amounts.mono_l k
  unfold damsonref09_amounts.f
  repeat' first
      | (with_reducible exact ih0 _ _ _ _)
      | exact ih0 _ _ _ _
      | exact LeO.none _
      | refine LeO.ite ?_ ?_
      | refine LeO.bind ?_ (fun _ => ?_)
set_option maxHeartbeats 8000000 in
set_option maxRecDepth 100000 in
theorem damsonref09_amounts.calls (k : Nat) (A0 : Option Addr) (c0 : Nat) (l0 : List (S44)) (r : List Int) (w : World) (hr0 : Kd.C k44 w A0 l0.length l0) (hc0 : l0.length ≤ c0) (h : damsonref09_amounts.f k l0 = some r) :
    Calls Try.prog 95 #[.slice A0 l0.length c0] w fun e w' => ∃ v0_ : Value, e = .returned (v0_) ∧ Kd.R (Kd.int .u64) 22 w' w.heap.size (fun _ => True) v0_ r ∧ Below w.heap.size w w' := by
  have hu44 := Try.underlying44
  have HR0 := aM_ hr0
  have HC0 := aM_ hc0
  clear hr0 hc0
  have HB := aM_ (Below.refl w.heap.size w)
  have H : (damsonref09_amounts.l0 k ([] : List Int) l0 (l0.length : Int) 0) = some r := h
  clear h
  have H' := aM_ H
  clear H
  go_enter Try.func95, Try.ntmps95
  go_wp2
  go_loopg [3, 8] k (fun kq v3 v8 w' => ∃ (x3_1 : List Int) (x8_1 : Int), v8 = .int .i64 x8_1 ∧ Aside0 (damsonref09_amounts.l0 kq x3_1 l0 (l0.length : Int) x8_1 = some r) ∧ Aside0 (kq ≤ k) ∧ Aside0 (Kd.R (Kd.int .u64) 22 w' w.heap.size (fun _ => True) v3 x3_1) ∧ Aside0 (Below w.heap.size w w'))
  case atStart => exact ⟨(([] : List Int)), (0), (by (rfl)), H', ⟨Nat.le_refl _⟩, ⟨by (exact Kd.R_nil _ _ _ _ _)⟩, ⟨by repeat (((with_reducible (exact HB.out))))⟩⟩
  case round =>
    clear H'
    obtain ⟨x3_1, x8_1, rfl, HA, HK1, HO_3, HB⟩ := hrel
    cases gk with
    | zero => exact absurd HA.out (by simp [damsonref09_amounts.l0])
    | succ k1 =>
      have H := HA.out
      clear HA
      simp only [damsonref09_amounts.l0] at H
      by_cases c2 : x8_1 < (l0.length : Int)
      · rw [if_pos c2] at H
        have c2b0 := decide_eq_true c2
        clear c2
        by_cases c3 : 0 ≤ x8_1
        · rw [if_pos c3] at H
          have c3b0 := decide_eq_true c3
          clear c3
          by_cases c4 : x8_1 < (l0.length : Int)
          · rw [if_pos c4] at H
            have c4b0 := decide_eq_true c4
            clear c4
            by_cases c5 : x3_1.length < 17592186044416
            · rw [if_pos c5] at H
              have LMc5 := aM_ c5
              clear c5
              obtain ⟨y258, hy258⟩ : ∃ y_ : List Int, y_ = (x3_1 ++ [(rd_T44 l0 x8_1).f1]) := ⟨_, rfl⟩
              replace H : (damsonref09_amounts.l0 k1 y258 l0 (l0.length : Int) (wrap64 (x8_1 + 1))) = some r := by ((rw [hy258]; with_reducible exact H))
              have Ny258 := aM_ hy258
              clear hy258
              have H' := aM_ H
              clear H
              have p256 : 0 ≤ (x8_1 : Int) := of_decide_eq_true (by ((with_reducible assumption)))
              have q256 : x8_1 < (l0.length : Int) := of_decide_eq_true (by ((with_reducible assumption)))
              obtain ⟨ad256, e256, hx256_0, hx256_1⟩ := at_T44 HR0.out x8_1 p256 q256
              cases e256
              replace hx256_0 := cN_ HB hx256_0
              replace hx256_1 := cN_ HB hx256_1
              replace p256 := eq_true p256
              replace q256 := eq_true q256
              go_wp2_with (first | ((with_reducible refine gate_dst (N := 5) rfl ?_); refine box_event ?hg (N := 5) ?hd (cs := #[.int .u64 0, .int .u64 0]) (t := 44) ?hr ?_; (case hd => rfl); (case hg => rfl); (case hr => ((go_simp; done))); intro gb257 hg w6 hbox hb; replace HO_3 := aM_ (Kd.R_below (Kd.RN HO_3) hb); have BK257 := aM_ (hbox); have GW257 := aM_ (geN HB hg); have GE257 := aM_ (geN HB hg); replace HB := bsA_ HB hb; clear hb hbox hg; obtain ⟨hcz7_0, hcz7_1, hfz7_0, hfz7_1⟩ := cz2_ (w := w6) BK257.out) | ((with_reducible refine gate_builtin (b := .append) (xs := #[.tmp 12, .tmp 15]) rfl ?_); at_builtin; refine Kd.R_append (Kd.int .u64) (w0 := w) w.heap.size rfl (.tmp 12) (.tmp 15) 42 22 (.int .u64 0) 8 rfl Try.underlying42 info22 rfl (by decide) (by omega) u3 x3_1 ((rd_T44 l0 x8_1).f1) [.int .u64 ((rd_T44 l0 x8_1).f1)] (fun _ => True) (fun _ => False) rfl (by ((go_simp; done))) ?aP (fun _ hk => hk.elim) ?aF ?aO ?aB ?aS ?aL ?_; (case aP => exact rfl); (case aB => exact (belN HB)); (case aF => exact (fun _ _ => trivial)); (case aO => exact (by exact Kd.R_mono (Kd.R_far (p := ⟨gb257, 1, none⟩) (Kd.R_far (p := ⟨gb257, 0, none⟩) (Kd.R_types HO_3.out BK257.out (by decide)) (fun _ hk => hk.2) (.int .u64 ((rd_T44 l0 x8_1).f0))) (fun _ hk => hk.2) (.int .u64 ((rd_T44 l0 x8_1).f1))) (fun _ hk => trivial))); (case aS => exact (below_size (belN HB))); (case aL => have := LMc5.out; omega); intro v259 w8 ho hb hg hat; rw [← Ny258.out] at ho; replace BK257 := aM_ (blk_grown (g := gb257) (o := .cells #[.int .u64 ((rd_T44 l0 x8_1).f0), .int .u64 ((rd_T44 l0 x8_1).f1)] 44 (0, 0)) (by apply bp2_; exact BK257.out) hg (Kd.R_ne HO_3.out BK257.out (by decide))); replace HB := aM_ (hb); have HO260 := aM_ (ho); clear HO_3; clear ho hb hg hat))
              go_roundg k1
              case measure => have := HK1.out; omega
              case rel => exact ⟨(y258), (wrap64 (x8_1 + 1)), (by (rfl)), H', ⟨by have := HK1.out; omega⟩, ⟨by exact HO260.out⟩, ⟨by repeat (((with_reducible (exact HB.out))))⟩⟩
            · rw [if_neg c5] at H
              exact absurd H (by simp)
          · rw [if_neg c4] at H
            exact absurd H (by simp)
        · rw [if_neg c3] at H
          exact absurd H (by simp)
      · rw [if_neg c2] at H
        have c2b0 := decide_eq_false c2
        clear c2
        obtain rfl := Option.some.inj H
        go_wp2
        go_ret
        exact ⟨_, by (rfl), by exact HO_3.out, by repeat (((with_reducible (exact HB.out))))⟩

end Go.Proofs.Ytcfbcoinbecdfaa.P
