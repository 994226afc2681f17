-- written by a program of this session (wip/print)
import Derived.Test.YtcfbcoinbecdfaaQLdoesx0
import Derived.Test.YtcfbcoinbecdfaaQLdoesx5
import Derived.Test.YtcfbcoinbecdfaaQLdoesx6
import Derived.Test.YtcfbcoinbecdfaaQLdoesx7
namespace Go.Proofs.Ytcfbcoinbecdfaa.P
open Go.RowKit Go.Proofs.YtcfbcoinbecdfaaW.PrintWords Go.Proofs.YtcfbcoinbecdfaaW.PrintLast Go.Proofs.YtcfbcoinbecdfaaW.PrintMore
attribute [local go_sem] max2_int min2_int max_two min_two max_three min_three max_four min_four run_sub64_   -- for this text's walks alone
set_option linter.unusedVariables false
set_option linter.unusedSimpArgs false

/-! ### ledger_change: function 110 (by hand) -/
def ledger_change.g (k : Nat) (l : List S25) (id : Int) (how : S25 → Option (S25 × Int)) : Option (List S25 × Int) := (ledger_place.f k l id).bind fun p => if p.2 = 0 then (if 0 ≤ p.1 ∧ p.1 < (l.length : Int) then (how (rd_T25 l p.1)).bind fun q => if q.2 = 0 then (ledger_owns.f l).bind fun m => some (m.set p.1.toNat q.1, 0) else some ([], q.2) else none) else some ([], p.2)
/-- What a function handed to change does at a channel. -/
def HowAt (w : World) (n : FuncId) (caps : List Value) (how : S25 → Option (S25 × Int)) : Prop := ∀ (c : S25) (A1 : Option Addr) (c1 : Nat) (c2 : S25) (e2 : Int) (w1 : World), Below w.heap.size w w1 → Kd.C k44 w1 A1 c.f5.length c.f5 → c.f5.length ≤ c1 → how c = some (c2, e2) → Calls Try.prog n (#[.agg #[.int .u64 c.f0, .int .u64 c.f1, .int .u64 c.f2, .int .u64 c.f3, .int .u64 c.f4, .slice A1 c.f5.length c1, .bool c.f6]] ++ caps.toArray) w1 fun e w2 => ∃ A6 c6, e = .returned (.tuple #[.agg #[.int .u64 c2.f0, .int .u64 c2.f1, .int .u64 c2.f2, .int .u64 c2.f3, .int .u64 c2.f4, .slice A6 c2.f5.length c6, .bool c2.f6], .int .i64 e2]) ∧ (e2 = 0 → Ch w2 w1.heap.size c2 [.int .u64 c2.f0, .int .u64 c2.f1, .int .u64 c2.f2, .int .u64 c2.f3, .int .u64 c2.f4, .slice A6 c2.f5.length c6, .bool c2.f6]) ∧ Below w1.heap.size w1 w2
theorem Rows25.set {w w1 : World} {B i g : Nat} {l : List S25} {rows : List (List Value)} {c2 : S25} {cs : List Value} {cur : Array Value} (h : Rows25 w B l rows) (hn : Ch w B c2 cs) (hg : w.grownBy w1 (some g)) (hc : w.heap[g]? = some (.cells cur 25 (0, 0))) : Rows25 w1 B (l.set i c2) (rows.set i cs) := by
  intro j y hj
  by_cases e : j = i
  · subst e
    have hjl : j < l.length := by have := (List.getElem?_eq_some_iff.1 hj).1; rwa [List.length_set] at this
    rw [List.getElem?_set_self hjl] at hj
    injection hj with hj
    subst hj
    obtain ⟨c0, q1, _⟩ := h j _ (List.getElem?_eq_getElem hjl)
    exact ⟨cs, List.getElem?_set_self (List.getElem?_eq_some_iff.1 q1).1, hn.grown hg hc⟩
  · rw [List.getElem?_set_ne (by omega)] at hj
    obtain ⟨c0, q1, q2⟩ := h j y hj
    exact ⟨c0, by rw [List.getElem?_set_ne (by omega)]; exact q1, q2.grown hg hc⟩
set_option maxHeartbeats 16000000 in
set_option maxRecDepth 100000 in
theorem ledger_change.callsS_111 (k : Nat) (A0 : Option Addr) (c0 : Nat) (l : List S25) (id : Int) (p1 : Value) (p2 : Value) (p3 : Value) (how : S25 → Option (S25 × Int)) (r : List S25) (er : Int) (w : World) (hr0 : Kd.C k25 w A0 l.length l) (hc0 : l.length ≤ c0) (hw : HowAt w 111 [p1, p2, p3] how) (h : ledger_change.g k l id how = some (r, er)) :
    Calls Try.prog 110 #[.slice A0 l.length c0, .int .u64 id, .func (.func 111) #[] #[p1, p2, p3]] w fun e w' => ∃ v : Value, e = .returned (.tuple #[v, .int .i64 er]) ∧ Own25 w' w.heap.size v r ∧ Below w.heap.size w w' := by
  have HR0 := aM_ hr0
  have HC0 := aM_ hc0
  have HW := aM_ hw
  clear hr0 hc0 hw
  have HB := aM_ (Below.refl w.heap.size w)
  unfold ledger_change.g at h
  obtain ⟨⟨pi, pe⟩, h1, h_⟩ := oB_ h
  replace h := h_
  clear h_
  have HF1 := aM_ h1
  clear h1
  dsimp only at h
  by_cases hpe : pe = 0
  case neg =>
    rw [if_neg hpe] at h
    have hpeb : (pe != 0) = true := bne_iff_ne.mpr hpe
    clear hpe
    injection h with h
    injection h with hh1 hh2
    subst hh1 hh2
    go_enter Try.func110, Try.ntmps110
    go_wp2_with (go_at_call 104; refine (ledger_place.calls k A0 c0 l id pi pe _ HR0.out HC0.out HF1.out).mono ?_; rintro e w1 ⟨rfl, hb⟩; clear HF1; replace HB := aM_ (below_then HB.out HB.out.size hb);  clear hb)
    go_ret2
    exact ⟨_, rfl, Own25.nil _ _, HB.out⟩
  subst hpe
  rw [if_pos rfl] at h
  by_cases hpi : 0 ≤ pi ∧ pi < (l.length : Int)
  case neg => rw [if_neg hpi] at h; cases h
  rw [if_pos hpi] at h
  obtain ⟨hp0, hp1⟩ := hpi
  obtain ⟨i, rfl⟩ := Int.eq_ofNat_of_zero_le hp0
  have hi : i < l.length := by omega
  obtain ⟨ad, A5, c5, ea, hx0, hx1, hx2, hx3, hx4, hx5, hx6, hl5, hi5⟩ := at_T25 HR0.out (i : Int) (by omega) (by omega)
  subst ea
  obtain ⟨c, hc⟩ : ∃ c, c = rd_T25 l (i : Int) := ⟨_, rfl⟩
  rw [← hc] at h
  simp only [← hc, Int.toNat_natCast] at hx0 hx1 hx2 hx3 hx4 hx5 hx6 hl5 hi5
  have HL5 := aM_ hl5
  have HI5 := aM_ hi5
  clear hl5 hi5 hc
  obtain ⟨⟨c2, e2⟩, h1, h_⟩ := oB_ h
  replace h := h_
  clear h_
  have HF2 := aM_ h1
  clear h1
  dsimp only at h
  by_cases he2 : e2 = 0
  case neg =>
    rw [if_neg he2] at h
    have he2b : (e2 != 0) = true := bne_iff_ne.mpr he2
    clear he2
    injection h with h
    injection h with hh1 hh2
    subst hh1 hh2
    go_enter Try.func110, Try.ntmps110
    go_wp2_with (first | (go_at_call 104; refine (ledger_place.calls k (some ad) c0 l id (i : Int) 0 _ HR0.out HC0.out HF1.out).mono ?_; rintro e w1 ⟨rfl, hb⟩; clear HF1; replace HB := aM_ (below_then HB.out HB.out.size hb); replace hx0 := (hb.cell (World.block_lt_of_cell? w _ hx0)).trans hx0; replace hx1 := (hb.cell (World.block_lt_of_cell? w _ hx1)).trans hx1; replace hx2 := (hb.cell (World.block_lt_of_cell? w _ hx2)).trans hx2; replace hx3 := (hb.cell (World.block_lt_of_cell? w _ hx3)).trans hx3; replace hx4 := (hb.cell (World.block_lt_of_cell? w _ hx4)).trans hx4; replace hx5 := (hb.cell (World.block_lt_of_cell? w _ hx5)).trans hx5; replace hx6 := (hb.cell (World.block_lt_of_cell? w _ hx6)).trans hx6;  clear hb) | (go_at_call 111; refine (HW.out c A5 c5 c2 e2 _ HB.out (Kd.C_below HI5.out HB.out) HL5.out HF2.out).mono ?_; rintro e w2 ⟨A6, c6, rfl, ho, hb⟩; clear HF2; have HO := aM_ (fun q_ => (ho q_).mono HB.out.size); replace HB := aM_ (below_then HB.out HB.out.size hb); clear ho hb hx0 hx1 hx2 hx3 hx4 hx5 hx6))
    go_ret2
    exact ⟨_, rfl, Own25.nil _ _, HB.out.alloc HB.out.size _⟩
  subst he2
  rw [if_pos rfl] at h
  obtain ⟨m, h1, h_⟩ := oB_ h
  replace h := h_
  clear h_
  have HF3 := aM_ h1
  clear h1
  have hm : m = l := owns_eq HF3.out
  subst hm
  injection h with h
  injection h with hh1 hh2
  subst hh1 hh2
  rw [Int.toNat_natCast]
  obtain ⟨x, hx⟩ : ∃ x, m[i]? = some x := ⟨_, List.getElem?_eq_getElem hi⟩
  have HX := aM_ hx
  have HI := aM_ hi
  clear hx hi
  go_enter Try.func110, Try.ntmps110
  go_wp2_with (first | (go_at_call 104; refine (ledger_place.calls k (some ad) c0 m id (i : Int) 0 _ HR0.out HC0.out HF1.out).mono ?_; rintro e w1 ⟨rfl, hb⟩; clear HF1; replace HB := aM_ (below_then HB.out HB.out.size hb); replace hx0 := (hb.cell (World.block_lt_of_cell? w _ hx0)).trans hx0; replace hx1 := (hb.cell (World.block_lt_of_cell? w _ hx1)).trans hx1; replace hx2 := (hb.cell (World.block_lt_of_cell? w _ hx2)).trans hx2; replace hx3 := (hb.cell (World.block_lt_of_cell? w _ hx3)).trans hx3; replace hx4 := (hb.cell (World.block_lt_of_cell? w _ hx4)).trans hx4; replace hx5 := (hb.cell (World.block_lt_of_cell? w _ hx5)).trans hx5; replace hx6 := (hb.cell (World.block_lt_of_cell? w _ hx6)).trans hx6;  clear hb) | (go_at_call 111; refine (HW.out c A5 c5 c2 0 _ HB.out (Kd.C_below HI5.out HB.out) HL5.out HF2.out).mono ?_; rintro e w2 ⟨A6, c6, rfl, ho, hb⟩; clear HF2; have HO := aM_ (fun q_ => (ho q_).mono HB.out.size); replace HB := aM_ (below_then HB.out HB.out.size hb); clear ho hb hx0 hx1 hx2 hx3 hx4 hx5 hx6) | (go_at_call 102; go_loud (have hal := (Below.refl w2.heap.size w2).alloc (Nat.le_refl _) (.cells #[.int .u64 c2.f0, .int .u64 c2.f1, .int .u64 c2.f2, .int .u64 c2.f3, .int .u64 c2.f4, .slice A6 c2.f5.length c6, .bool c2.f6] 25); have HBL := aM_ (HB.out.alloc HB.out.size (.cells #[.int .u64 c2.f0, .int .u64 c2.f1, .int .u64 c2.f2, .int .u64 c2.f3, .int .u64 c2.f4, .slice A6 c2.f5.length c6, .bool c2.f6] 25)); have HK := aM_ (blk_new w2 (.cells #[.int .u64 c2.f0, .int .u64 c2.f1, .int .u64 c2.f2, .int .u64 c2.f3, .int .u64 c2.f4, .slice A6 c2.f5.length c6, .bool c2.f6] 25)); refine (ledger_owns.calls (some ad) c0 m m _ (Kd.C_below HR0.out HBL.out) HC0.out HF3.out).mono ?_; rintro e w3 ⟨v, rfl, ho, hb⟩; clear HF3; have HB3 := aM_ (below_then HBL.out HBL.out.size hb); replace HK := aM_ (blk_below HK.out hb); have HCH := aM_ (((HO.out trivial).below hal).below hb); obtain ⟨rows, hR, hrl, hrx⟩ := ho; have HVB := aM_ (fun k_ (hk : v.ownBlock = some k_) => Nat.lt_of_lt_of_le (show w2.heap.size < (w2.alloc (.cells #[.int .u64 c2.f0, .int .u64 c2.f1, .int .u64 c2.f2, .int .u64 c2.f3, .int .u64 c2.f4, .slice A6 c2.f5.length c6, .bool c2.f6] 25)).heap.size by simp) (Kd.R_base hR k_ hk)); have HR := aM_ (Kd.R_lower hR HBL.out.size); have HRL := aM_ hrl; have HRX : Aside0 (Rows25 w3 w.heap.size m rows) := ⟨fun j x hj => by obtain ⟨cs, q1, q2⟩ := hrx j x hj; exact ⟨cs, q1, q2.mono HBL.out.size⟩⟩; obtain ⟨g, cap, hv, hbg, hgl, cur, hblk⟩ := Kd.R_form HR.out (by have := HRL.out; have := HI.out; omega); subst hv; obtain ⟨cs, q1, q2⟩ := HRX.out i x HX.out; obtain ⟨A7, c7, hcs, _⟩ := q2; have hCr := (Kd.R_reads' HR.out).2.2; obtain ⟨ad2, ea2, hcell⟩ := hCr.2.2 (by have := HRL.out; have := HI.out; omega); injection ea2 with ea2; subst ea2; obtain ⟨c', r1, r2, r3⟩ := hcell i cs q1; have e1 : c' = cs := r2.1; subst e1; have HCC : Aside0 (∀ j u, c'[j]? = some u → w3.cell? ⟨g, i * 7 + j, none⟩ = some u) := ⟨fun j u hj => by have := r3 j u hj; rw [add_plain] at this; exact this⟩; subst hcs; rw [HRL.out]; have HGL := aM_ hgl; have HBK := aM_ hblk; obtain ⟨hz0, hz1, hz2, hz3, hz4, hz5, hz6, hz7, hz8, hz9, hz10, hz11, hz12, hz13⟩ := cz7_ HK.out; clear hal HB HBL hb hR hrl hrx hbg hgl hblk q1 hCr hcell r1 r2 r3 HO)) | ((with_reducible refine gate_ (.store 25 (.tmp 37) (.tmp 36)) rfl ?_); refine Kd.R_store (Kd.raw 7) (w0 := w) w.heap.size rfl rfl 25 (.tmp 37) (.tmp 36) rfl 25 (i : Int) 0 rows [.int .u64 c2.f0, .int .u64 c2.f1, .int .u64 c2.f2, .int .u64 c2.f3, .int .u64 c2.f4, .slice A6 c2.f5.length c6, .bool c2.f6] (.agg #[.int .u64 c2.f0, .int .u64 c2.f1, .int .u64 c2.f2, .int .u64 c2.f3, .int .u64 c2.f4, .slice A6 c2.f5.length c6, .bool c2.f6]) [.int .u64 c2.f0, .int .u64 c2.f1, .int .u64 c2.f2, .int .u64 c2.f3, .int .u64 c2.f4, .slice A6 c2.f5.length c6, .bool c2.f6] [.int .u64 x.f0, .int .u64 x.f1, .int .u64 x.f2, .int .u64 x.f3, .int .u64 x.f4, .slice A7 x.f5.length c7, .bool x.f6] (fun _ => True) (fun _ => False) rfl (by rw [Int.toNat_natCast]; rfl) rfl rfl (by kernel_rfl) (by intro q hq; simp at hq; rcases hq with rfl | rfl | rfl | rfl | rfl | rfl | rfl <;> rfl) HR.out (by omega) (by have := HRL.out; have := HI.out; omega) rfl (fun j u hj => by rw [Int.toNat_natCast]; exact HCC.out j u hj) (Nat.le_refl _) ⟨rfl, rfl, (by intro q hq; simp at hq; rcases hq with rfl | rfl | rfl | rfl | rfl | rfl | rfl <;> rfl)⟩ (fun _ hk => hk.elim) HB3.out ?_; intro w4 ho3 hb3 hg3; rw [Int.toNat_natCast, HRL.out] at ho3; have HR3 := aM_ ho3; have HB4 := aM_ hb3; have HH3 := aM_ (Rows25.set (i := i) HRX.out HCH.out hg3 HBK.out); clear ho3 hb3 hg3))
  go_ret2
  exact ⟨_, rfl, ⟨_, HR3.out, by rw [List.length_set, List.length_set]; exact HRL.out, HH3.out⟩, HB4.out⟩
set_option maxHeartbeats 16000000 in
set_option maxRecDepth 100000 in
theorem ledger_change.callsS_114 (k : Nat) (A0 : Option Addr) (c0 : Nat) (l : List S25) (id : Int) (p1 : Value) (how : S25 → Option (S25 × Int)) (r : List S25) (er : Int) (w : World) (hr0 : Kd.C k25 w A0 l.length l) (hc0 : l.length ≤ c0) (hw : HowAt w 114 [p1] how) (h : ledger_change.g k l id how = some (r, er)) :
    Calls Try.prog 110 #[.slice A0 l.length c0, .int .u64 id, .func (.func 114) #[] #[p1]] w fun e w' => ∃ v : Value, e = .returned (.tuple #[v, .int .i64 er]) ∧ Own25 w' w.heap.size v r ∧ Below w.heap.size w w' := by
  have HR0 := aM_ hr0
  have HC0 := aM_ hc0
  have HW := aM_ hw
  clear hr0 hc0 hw
  have HB := aM_ (Below.refl w.heap.size w)
  unfold ledger_change.g at h
  obtain ⟨⟨pi, pe⟩, h1, h_⟩ := oB_ h
  replace h := h_
  clear h_
  have HF1 := aM_ h1
  clear h1
  dsimp only at h
  by_cases hpe : pe = 0
  case neg =>
    rw [if_neg hpe] at h
    have hpeb : (pe != 0) = true := bne_iff_ne.mpr hpe
    clear hpe
    injection h with h
    injection h with hh1 hh2
    subst hh1 hh2
    go_enter Try.func110, Try.ntmps110
    go_wp2_with (go_at_call 104; refine (ledger_place.calls k A0 c0 l id pi pe _ HR0.out HC0.out HF1.out).mono ?_; rintro e w1 ⟨rfl, hb⟩; clear HF1; replace HB := aM_ (below_then HB.out HB.out.size hb);  clear hb)
    go_ret2
    exact ⟨_, rfl, Own25.nil _ _, HB.out⟩
  subst hpe
  rw [if_pos rfl] at h
  by_cases hpi : 0 ≤ pi ∧ pi < (l.length : Int)
  case neg => rw [if_neg hpi] at h; cases h
  rw [if_pos hpi] at h
  obtain ⟨hp0, hp1⟩ := hpi
  obtain ⟨i, rfl⟩ := Int.eq_ofNat_of_zero_le hp0
  have hi : i < l.length := by omega
  obtain ⟨ad, A5, c5, ea, hx0, hx1, hx2, hx3, hx4, hx5, hx6, hl5, hi5⟩ := at_T25 HR0.out (i : Int) (by omega) (by omega)
  subst ea
  obtain ⟨c, hc⟩ : ∃ c, c = rd_T25 l (i : Int) := ⟨_, rfl⟩
  rw [← hc] at h
  simp only [← hc, Int.toNat_natCast] at hx0 hx1 hx2 hx3 hx4 hx5 hx6 hl5 hi5
  have HL5 := aM_ hl5
  have HI5 := aM_ hi5
  clear hl5 hi5 hc
  obtain ⟨⟨c2, e2⟩, h1, h_⟩ := oB_ h
  replace h := h_
  clear h_
  have HF2 := aM_ h1
  clear h1
  dsimp only at h
  by_cases he2 : e2 = 0
  case neg =>
    rw [if_neg he2] at h
    have he2b : (e2 != 0) = true := bne_iff_ne.mpr he2
    clear he2
    injection h with h
    injection h with hh1 hh2
    subst hh1 hh2
    go_enter Try.func110, Try.ntmps110
    go_wp2_with (first | (go_at_call 104; refine (ledger_place.calls k (some ad) c0 l id (i : Int) 0 _ HR0.out HC0.out HF1.out).mono ?_; rintro e w1 ⟨rfl, hb⟩; clear HF1; replace HB := aM_ (below_then HB.out HB.out.size hb); replace hx0 := (hb.cell (World.block_lt_of_cell? w _ hx0)).trans hx0; replace hx1 := (hb.cell (World.block_lt_of_cell? w _ hx1)).trans hx1; replace hx2 := (hb.cell (World.block_lt_of_cell? w _ hx2)).trans hx2; replace hx3 := (hb.cell (World.block_lt_of_cell? w _ hx3)).trans hx3; replace hx4 := (hb.cell (World.block_lt_of_cell? w _ hx4)).trans hx4; replace hx5 := (hb.cell (World.block_lt_of_cell? w _ hx5)).trans hx5; replace hx6 := (hb.cell (World.block_lt_of_cell? w _ hx6)).trans hx6;  clear hb) | (go_at_call 114; refine (HW.out c A5 c5 c2 e2 _ HB.out (Kd.C_below HI5.out HB.out) HL5.out HF2.out).mono ?_; rintro e w2 ⟨A6, c6, rfl, ho, hb⟩; clear HF2; have HO := aM_ (fun q_ => (ho q_).mono HB.out.size); replace HB := aM_ (below_then HB.out HB.out.size hb); clear ho hb hx0 hx1 hx2 hx3 hx4 hx5 hx6))
    go_ret2
    exact ⟨_, rfl, Own25.nil _ _, HB.out.alloc HB.out.size _⟩
  subst he2
  rw [if_pos rfl] at h
  obtain ⟨m, h1, h_⟩ := oB_ h
  replace h := h_
  clear h_
  have HF3 := aM_ h1
  clear h1
  have hm : m = l := owns_eq HF3.out
  subst hm
  injection h with h
  injection h with hh1 hh2
  subst hh1 hh2
  rw [Int.toNat_natCast]
  obtain ⟨x, hx⟩ : ∃ x, m[i]? = some x := ⟨_, List.getElem?_eq_getElem hi⟩
  have HX := aM_ hx
  have HI := aM_ hi
  clear hx hi
  go_enter Try.func110, Try.ntmps110
  go_wp2_with (first | (go_at_call 104; refine (ledger_place.calls k (some ad) c0 m id (i : Int) 0 _ HR0.out HC0.out HF1.out).mono ?_; rintro e w1 ⟨rfl, hb⟩; clear HF1; replace HB := aM_ (below_then HB.out HB.out.size hb); replace hx0 := (hb.cell (World.block_lt_of_cell? w _ hx0)).trans hx0; replace hx1 := (hb.cell (World.block_lt_of_cell? w _ hx1)).trans hx1; replace hx2 := (hb.cell (World.block_lt_of_cell? w _ hx2)).trans hx2; replace hx3 := (hb.cell (World.block_lt_of_cell? w _ hx3)).trans hx3; replace hx4 := (hb.cell (World.block_lt_of_cell? w _ hx4)).trans hx4; replace hx5 := (hb.cell (World.block_lt_of_cell? w _ hx5)).trans hx5; replace hx6 := (hb.cell (World.block_lt_of_cell? w _ hx6)).trans hx6;  clear hb) | (go_at_call 114; refine (HW.out c A5 c5 c2 0 _ HB.out (Kd.C_below HI5.out HB.out) HL5.out HF2.out).mono ?_; rintro e w2 ⟨A6, c6, rfl, ho, hb⟩; clear HF2; have HO := aM_ (fun q_ => (ho q_).mono HB.out.size); replace HB := aM_ (below_then HB.out HB.out.size hb); clear ho hb hx0 hx1 hx2 hx3 hx4 hx5 hx6) | (go_at_call 102; go_loud (have hal := (Below.refl w2.heap.size w2).alloc (Nat.le_refl _) (.cells #[.int .u64 c2.f0, .int .u64 c2.f1, .int .u64 c2.f2, .int .u64 c2.f3, .int .u64 c2.f4, .slice A6 c2.f5.length c6, .bool c2.f6] 25); have HBL := aM_ (HB.out.alloc HB.out.size (.cells #[.int .u64 c2.f0, .int .u64 c2.f1, .int .u64 c2.f2, .int .u64 c2.f3, .int .u64 c2.f4, .slice A6 c2.f5.length c6, .bool c2.f6] 25)); have HK := aM_ (blk_new w2 (.cells #[.int .u64 c2.f0, .int .u64 c2.f1, .int .u64 c2.f2, .int .u64 c2.f3, .int .u64 c2.f4, .slice A6 c2.f5.length c6, .bool c2.f6] 25)); refine (ledger_owns.calls (some ad) c0 m m _ (Kd.C_below HR0.out HBL.out) HC0.out HF3.out).mono ?_; rintro e w3 ⟨v, rfl, ho, hb⟩; clear HF3; have HB3 := aM_ (below_then HBL.out HBL.out.size hb); replace HK := aM_ (blk_below HK.out hb); have HCH := aM_ (((HO.out trivial).below hal).below hb); obtain ⟨rows, hR, hrl, hrx⟩ := ho; have HVB := aM_ (fun k_ (hk : v.ownBlock = some k_) => Nat.lt_of_lt_of_le (show w2.heap.size < (w2.alloc (.cells #[.int .u64 c2.f0, .int .u64 c2.f1, .int .u64 c2.f2, .int .u64 c2.f3, .int .u64 c2.f4, .slice A6 c2.f5.length c6, .bool c2.f6] 25)).heap.size by simp) (Kd.R_base hR k_ hk)); have HR := aM_ (Kd.R_lower hR HBL.out.size); have HRL := aM_ hrl; have HRX : Aside0 (Rows25 w3 w.heap.size m rows) := ⟨fun j x hj => by obtain ⟨cs, q1, q2⟩ := hrx j x hj; exact ⟨cs, q1, q2.mono HBL.out.size⟩⟩; obtain ⟨g, cap, hv, hbg, hgl, cur, hblk⟩ := Kd.R_form HR.out (by have := HRL.out; have := HI.out; omega); subst hv; obtain ⟨cs, q1, q2⟩ := HRX.out i x HX.out; obtain ⟨A7, c7, hcs, _⟩ := q2; have hCr := (Kd.R_reads' HR.out).2.2; obtain ⟨ad2, ea2, hcell⟩ := hCr.2.2 (by have := HRL.out; have := HI.out; omega); injection ea2 with ea2; subst ea2; obtain ⟨c', r1, r2, r3⟩ := hcell i cs q1; have e1 : c' = cs := r2.1; subst e1; have HCC : Aside0 (∀ j u, c'[j]? = some u → w3.cell? ⟨g, i * 7 + j, none⟩ = some u) := ⟨fun j u hj => by have := r3 j u hj; rw [add_plain] at this; exact this⟩; subst hcs; rw [HRL.out]; have HGL := aM_ hgl; have HBK := aM_ hblk; obtain ⟨hz0, hz1, hz2, hz3, hz4, hz5, hz6, hz7, hz8, hz9, hz10, hz11, hz12, hz13⟩ := cz7_ HK.out; clear hal HB HBL hb hR hrl hrx hbg hgl hblk q1 hCr hcell r1 r2 r3 HO)) | ((with_reducible refine gate_ (.store 25 (.tmp 37) (.tmp 36)) rfl ?_); refine Kd.R_store (Kd.raw 7) (w0 := w) w.heap.size rfl rfl 25 (.tmp 37) (.tmp 36) rfl 25 (i : Int) 0 rows [.int .u64 c2.f0, .int .u64 c2.f1, .int .u64 c2.f2, .int .u64 c2.f3, .int .u64 c2.f4, .slice A6 c2.f5.length c6, .bool c2.f6] (.agg #[.int .u64 c2.f0, .int .u64 c2.f1, .int .u64 c2.f2, .int .u64 c2.f3, .int .u64 c2.f4, .slice A6 c2.f5.length c6, .bool c2.f6]) [.int .u64 c2.f0, .int .u64 c2.f1, .int .u64 c2.f2, .int .u64 c2.f3, .int .u64 c2.f4, .slice A6 c2.f5.length c6, .bool c2.f6] [.int .u64 x.f0, .int .u64 x.f1, .int .u64 x.f2, .int .u64 x.f3, .int .u64 x.f4, .slice A7 x.f5.length c7, .bool x.f6] (fun _ => True) (fun _ => False) rfl (by rw [Int.toNat_natCast]; rfl) rfl rfl (by kernel_rfl) (by intro q hq; simp at hq; rcases hq with rfl | rfl | rfl | rfl | rfl | rfl | rfl <;> rfl) HR.out (by omega) (by have := HRL.out; have := HI.out; omega) rfl (fun j u hj => by rw [Int.toNat_natCast]; exact HCC.out j u hj) (Nat.le_refl _) ⟨rfl, rfl, (by intro q hq; simp at hq; rcases hq with rfl | rfl | rfl | rfl | rfl | rfl | rfl <;> rfl)⟩ (fun _ hk => hk.elim) HB3.out ?_; intro w4 ho3 hb3 hg3; rw [Int.toNat_natCast, HRL.out] at ho3; have HR3 := aM_ ho3; have HB4 := aM_ hb3; have HH3 := aM_ (Rows25.set (i := i) HRX.out HCH.out hg3 HBK.out); clear ho3 hb3 hg3))
  go_ret2
  exact ⟨_, rfl, ⟨_, HR3.out, by rw [List.length_set, List.length_set]; exact HRL.out, HH3.out⟩, HB4.out⟩
set_option maxHeartbeats 16000000 in
set_option maxRecDepth 100000 in
theorem ledger_change.callsS_37 (k : Nat) (A0 : Option Addr) (c0 : Nat) (l : List S25) (id : Int) (how : S25 → Option (S25 × Int)) (r : List S25) (er : Int) (w : World) (hr0 : Kd.C k25 w A0 l.length l) (hc0 : l.length ≤ c0) (hw : HowAt w 37 [] how) (h : ledger_change.g k l id how = some (r, er)) :
    Calls Try.prog 110 #[.slice A0 l.length c0, .int .u64 id, .func (.func 37) #[] #[]] w fun e w' => ∃ v : Value, e = .returned (.tuple #[v, .int .i64 er]) ∧ Own25 w' w.heap.size v r ∧ Below w.heap.size w w' := by
  have HR0 := aM_ hr0
  have HC0 := aM_ hc0
  have HW := aM_ hw
  clear hr0 hc0 hw
  have HB := aM_ (Below.refl w.heap.size w)
  unfold ledger_change.g at h
  obtain ⟨⟨pi, pe⟩, h1, h_⟩ := oB_ h
  replace h := h_
  clear h_
  have HF1 := aM_ h1
  clear h1
  dsimp only at h
  by_cases hpe : pe = 0
  case neg =>
    rw [if_neg hpe] at h
    have hpeb : (pe != 0) = true := bne_iff_ne.mpr hpe
    clear hpe
    injection h with h
    injection h with hh1 hh2
    subst hh1 hh2
    go_enter Try.func110, Try.ntmps110
    go_wp2_with (go_at_call 104; refine (ledger_place.calls k A0 c0 l id pi pe _ HR0.out HC0.out HF1.out).mono ?_; rintro e w1 ⟨rfl, hb⟩; clear HF1; replace HB := aM_ (below_then HB.out HB.out.size hb);  clear hb)
    go_ret2
    exact ⟨_, rfl, Own25.nil _ _, HB.out⟩
  subst hpe
  rw [if_pos rfl] at h
  by_cases hpi : 0 ≤ pi ∧ pi < (l.length : Int)
  case neg => rw [if_neg hpi] at h; cases h
  rw [if_pos hpi] at h
  obtain ⟨hp0, hp1⟩ := hpi
  obtain ⟨i, rfl⟩ := Int.eq_ofNat_of_zero_le hp0
  have hi : i < l.length := by omega
  obtain ⟨ad, A5, c5, ea, hx0, hx1, hx2, hx3, hx4, hx5, hx6, hl5, hi5⟩ := at_T25 HR0.out (i : Int) (by omega) (by omega)
  subst ea
  obtain ⟨c, hc⟩ : ∃ c, c = rd_T25 l (i : Int) := ⟨_, rfl⟩
  rw [← hc] at h
  simp only [← hc, Int.toNat_natCast] at hx0 hx1 hx2 hx3 hx4 hx5 hx6 hl5 hi5
  have HL5 := aM_ hl5
  have HI5 := aM_ hi5
  clear hl5 hi5 hc
  obtain ⟨⟨c2, e2⟩, h1, h_⟩ := oB_ h
  replace h := h_
  clear h_
  have HF2 := aM_ h1
  clear h1
  dsimp only at h
  by_cases he2 : e2 = 0
  case neg =>
    rw [if_neg he2] at h
    have he2b : (e2 != 0) = true := bne_iff_ne.mpr he2
    clear he2
    injection h with h
    injection h with hh1 hh2
    subst hh1 hh2
    go_enter Try.func110, Try.ntmps110
    go_wp2_with (first | (go_at_call 104; refine (ledger_place.calls k (some ad) c0 l id (i : Int) 0 _ HR0.out HC0.out HF1.out).mono ?_; rintro e w1 ⟨rfl, hb⟩; clear HF1; replace HB := aM_ (below_then HB.out HB.out.size hb); replace hx0 := (hb.cell (World.block_lt_of_cell? w _ hx0)).trans hx0; replace hx1 := (hb.cell (World.block_lt_of_cell? w _ hx1)).trans hx1; replace hx2 := (hb.cell (World.block_lt_of_cell? w _ hx2)).trans hx2; replace hx3 := (hb.cell (World.block_lt_of_cell? w _ hx3)).trans hx3; replace hx4 := (hb.cell (World.block_lt_of_cell? w _ hx4)).trans hx4; replace hx5 := (hb.cell (World.block_lt_of_cell? w _ hx5)).trans hx5; replace hx6 := (hb.cell (World.block_lt_of_cell? w _ hx6)).trans hx6;  clear hb) | (go_at_call 37; refine (HW.out c A5 c5 c2 e2 _ HB.out (Kd.C_below HI5.out HB.out) HL5.out HF2.out).mono ?_; rintro e w2 ⟨A6, c6, rfl, ho, hb⟩; clear HF2; have HO := aM_ (fun q_ => (ho q_).mono HB.out.size); replace HB := aM_ (below_then HB.out HB.out.size hb); clear ho hb hx0 hx1 hx2 hx3 hx4 hx5 hx6))
    go_ret2
    exact ⟨_, rfl, Own25.nil _ _, HB.out.alloc HB.out.size _⟩
  subst he2
  rw [if_pos rfl] at h
  obtain ⟨m, h1, h_⟩ := oB_ h
  replace h := h_
  clear h_
  have HF3 := aM_ h1
  clear h1
  have hm : m = l := owns_eq HF3.out
  subst hm
  injection h with h
  injection h with hh1 hh2
  subst hh1 hh2
  rw [Int.toNat_natCast]
  obtain ⟨x, hx⟩ : ∃ x, m[i]? = some x := ⟨_, List.getElem?_eq_getElem hi⟩
  have HX := aM_ hx
  have HI := aM_ hi
  clear hx hi
  go_enter Try.func110, Try.ntmps110
  go_wp2_with (first | (go_at_call 104; refine (ledger_place.calls k (some ad) c0 m id (i : Int) 0 _ HR0.out HC0.out HF1.out).mono ?_; rintro e w1 ⟨rfl, hb⟩; clear HF1; replace HB := aM_ (below_then HB.out HB.out.size hb); replace hx0 := (hb.cell (World.block_lt_of_cell? w _ hx0)).trans hx0; replace hx1 := (hb.cell (World.block_lt_of_cell? w _ hx1)).trans hx1; replace hx2 := (hb.cell (World.block_lt_of_cell? w _ hx2)).trans hx2; replace hx3 := (hb.cell (World.block_lt_of_cell? w _ hx3)).trans hx3; replace hx4 := (hb.cell (World.block_lt_of_cell? w _ hx4)).trans hx4; replace hx5 := (hb.cell (World.block_lt_of_cell? w _ hx5)).trans hx5; replace hx6 := (hb.cell (World.block_lt_of_cell? w _ hx6)).trans hx6;  clear hb) | (go_at_call 37; refine (HW.out c A5 c5 c2 0 _ HB.out (Kd.C_below HI5.out HB.out) HL5.out HF2.out).mono ?_; rintro e w2 ⟨A6, c6, rfl, ho, hb⟩; clear HF2; have HO := aM_ (fun q_ => (ho q_).mono HB.out.size); replace HB := aM_ (below_then HB.out HB.out.size hb); clear ho hb hx0 hx1 hx2 hx3 hx4 hx5 hx6) | (go_at_call 102; go_loud (have hal := (Below.refl w2.heap.size w2).alloc (Nat.le_refl _) (.cells #[.int .u64 c2.f0, .int .u64 c2.f1, .int .u64 c2.f2, .int .u64 c2.f3, .int .u64 c2.f4, .slice A6 c2.f5.length c6, .bool c2.f6] 25); have HBL := aM_ (HB.out.alloc HB.out.size (.cells #[.int .u64 c2.f0, .int .u64 c2.f1, .int .u64 c2.f2, .int .u64 c2.f3, .int .u64 c2.f4, .slice A6 c2.f5.length c6, .bool c2.f6] 25)); have HK := aM_ (blk_new w2 (.cells #[.int .u64 c2.f0, .int .u64 c2.f1, .int .u64 c2.f2, .int .u64 c2.f3, .int .u64 c2.f4, .slice A6 c2.f5.length c6, .bool c2.f6] 25)); refine (ledger_owns.calls (some ad) c0 m m _ (Kd.C_below HR0.out HBL.out) HC0.out HF3.out).mono ?_; rintro e w3 ⟨v, rfl, ho, hb⟩; clear HF3; have HB3 := aM_ (below_then HBL.out HBL.out.size hb); replace HK := aM_ (blk_below HK.out hb); have HCH := aM_ (((HO.out trivial).below hal).below hb); obtain ⟨rows, hR, hrl, hrx⟩ := ho; have HVB := aM_ (fun k_ (hk : v.ownBlock = some k_) => Nat.lt_of_lt_of_le (show w2.heap.size < (w2.alloc (.cells #[.int .u64 c2.f0, .int .u64 c2.f1, .int .u64 c2.f2, .int .u64 c2.f3, .int .u64 c2.f4, .slice A6 c2.f5.length c6, .bool c2.f6] 25)).heap.size by simp) (Kd.R_base hR k_ hk)); have HR := aM_ (Kd.R_lower hR HBL.out.size); have HRL := aM_ hrl; have HRX : Aside0 (Rows25 w3 w.heap.size m rows) := ⟨fun j x hj => by obtain ⟨cs, q1, q2⟩ := hrx j x hj; exact ⟨cs, q1, q2.mono HBL.out.size⟩⟩; obtain ⟨g, cap, hv, hbg, hgl, cur, hblk⟩ := Kd.R_form HR.out (by have := HRL.out; have := HI.out; omega); subst hv; obtain ⟨cs, q1, q2⟩ := HRX.out i x HX.out; obtain ⟨A7, c7, hcs, _⟩ := q2; have hCr := (Kd.R_reads' HR.out).2.2; obtain ⟨ad2, ea2, hcell⟩ := hCr.2.2 (by have := HRL.out; have := HI.out; omega); injection ea2 with ea2; subst ea2; obtain ⟨c', r1, r2, r3⟩ := hcell i cs q1; have e1 : c' = cs := r2.1; subst e1; have HCC : Aside0 (∀ j u, c'[j]? = some u → w3.cell? ⟨g, i * 7 + j, none⟩ = some u) := ⟨fun j u hj => by have := r3 j u hj; rw [add_plain] at this; exact this⟩; subst hcs; rw [HRL.out]; have HGL := aM_ hgl; have HBK := aM_ hblk; obtain ⟨hz0, hz1, hz2, hz3, hz4, hz5, hz6, hz7, hz8, hz9, hz10, hz11, hz12, hz13⟩ := cz7_ HK.out; clear hal HB HBL hb hR hrl hrx hbg hgl hblk q1 hCr hcell r1 r2 r3 HO)) | ((with_reducible refine gate_ (.store 25 (.tmp 37) (.tmp 36)) rfl ?_); refine Kd.R_store (Kd.raw 7) (w0 := w) w.heap.size rfl rfl 25 (.tmp 37) (.tmp 36) rfl 25 (i : Int) 0 rows [.int .u64 c2.f0, .int .u64 c2.f1, .int .u64 c2.f2, .int .u64 c2.f3, .int .u64 c2.f4, .slice A6 c2.f5.length c6, .bool c2.f6] (.agg #[.int .u64 c2.f0, .int .u64 c2.f1, .int .u64 c2.f2, .int .u64 c2.f3, .int .u64 c2.f4, .slice A6 c2.f5.length c6, .bool c2.f6]) [.int .u64 c2.f0, .int .u64 c2.f1, .int .u64 c2.f2, .int .u64 c2.f3, .int .u64 c2.f4, .slice A6 c2.f5.length c6, .bool c2.f6] [.int .u64 x.f0, .int .u64 x.f1, .int .u64 x.f2, .int .u64 x.f3, .int .u64 x.f4, .slice A7 x.f5.length c7, .bool x.f6] (fun _ => True) (fun _ => False) rfl (by rw [Int.toNat_natCast]; rfl) rfl rfl (by kernel_rfl) (by intro q hq; simp at hq; rcases hq with rfl | rfl | rfl | rfl | rfl | rfl | rfl <;> rfl) HR.out (by omega) (by have := HRL.out; have := HI.out; omega) rfl (fun j u hj => by rw [Int.toNat_natCast]; exact HCC.out j u hj) (Nat.le_refl _) ⟨rfl, rfl, (by intro q hq; simp at hq; rcases hq with rfl | rfl | rfl | rfl | rfl | rfl | rfl <;> rfl)⟩ (fun _ hk => hk.elim) HB3.out ?_; intro w4 ho3 hb3 hg3; rw [Int.toNat_natCast, HRL.out] at ho3; have HR3 := aM_ ho3; have HB4 := aM_ hb3; have HH3 := aM_ (Rows25.set (i := i) HRX.out HCH.out hg3 HBK.out); clear ho3 hb3 hg3))
  go_ret2
  exact ⟨_, rfl, ⟨_, HR3.out, by rw [List.length_set, List.length_set]; exact HRL.out, HH3.out⟩, HB4.out⟩
theorem ledger_change.mono_g (l : List S25) (id : Int) (h1 h2 : S25 → Option (S25 × Int)) (hm : ∀ c, LeO (h1 c) (h2 c)) (k : Nat) : LeO (ledger_change.g k l id h1) (ledger_change.g (k + 1) l id h2) := by
  unfold ledger_change.g
  repeat' first
    | (with_reducible exact LeO.refl _)
    | exact hm _
    | apply ledger_place.mono
    | (with_reducible refine LeO.ite ?_ ?_)
    | (with_reducible refine LeO.bind ?_ (fun _ => ?_))

/-! ### ledger_Hold: function 57 (by hand) -/
def ledger_Hold.how (k : Nat) (l : List S25) (hold n : Int) (c : S25) : Option (S25 × Int) := (ledger_Where.f k l hold).bind fun q => if q.2 = 0 then some (c, 6) else (channel_Hold.f k c.f0 c.f1 c.f2 c.f3 c.f4 c.f5 c.f6 hold n).bind fun r => some (⟨r.1, r.2.1, r.2.2.1, r.2.2.2.1, r.2.2.2.2.1, r.2.2.2.2.2.1, r.2.2.2.2.2.2.1⟩, r.2.2.2.2.2.2.2)
set_option maxHeartbeats 16000000 in
set_option maxRecDepth 100000 in
theorem ledger_Hold.hows (k : Nat) (A0 : Option Addr) (c0 : Nat) (l : List S25) (hold n : Int) (b1 b2 b3 : Nat) (w : World) (hr0 : Kd.C k25 w A0 l.length l) (hc0 : l.length ≤ c0) (hb1 : w.cell? ⟨b1, 0, none⟩ = some (.slice A0 l.length c0)) (hb2 : w.cell? ⟨b2, 0, none⟩ = some (.int .u64 hold)) (hb3 : w.cell? ⟨b3, 0, none⟩ = some (.int .u64 n)) :
    HowAt w 111 [.pointer (some ⟨b1, 0, none⟩), .pointer (some ⟨b2, 0, none⟩), .pointer (some ⟨b3, 0, none⟩)] (ledger_Hold.how k l hold n) := by
  intro c A1 c1 c2 e2 w1 hb hC hl h
  have HR0 := aM_ (Kd.C_below hr0 hb)
  have HC0 := aM_ hc0
  have HI5 := aM_ hC
  have HL5 := aM_ hl
  replace hb1 := (hb.cell (World.block_lt_of_cell? w _ hb1)).trans hb1
  replace hb2 := (hb.cell (World.block_lt_of_cell? w _ hb2)).trans hb2
  replace hb3 := (hb.cell (World.block_lt_of_cell? w _ hb3)).trans hb3
  have hlt1 : b1 < w1.heap.size := World.block_lt_of_cell? w1 _ hb1
  have hlt2 : b2 < w1.heap.size := World.block_lt_of_cell? w1 _ hb2
  have hlt3 : b3 < w1.heap.size := World.block_lt_of_cell? w1 _ hb3
  clear hr0 hc0 hC hl hb
  unfold ledger_Hold.how at h
  obtain ⟨⟨q1, q2⟩, h1, h_⟩ := oB_ h
  replace h := h_
  clear h_
  have HF1 := aM_ h1
  clear h1
  dsimp only at h
  show Calls Try.prog 111 #[.agg #[.int .u64 c.f0, .int .u64 c.f1, .int .u64 c.f2, .int .u64 c.f3, .int .u64 c.f4, .slice A1 c.f5.length c1, .bool c.f6], .pointer (some ⟨b1, 0, none⟩), .pointer (some ⟨b2, 0, none⟩), .pointer (some ⟨b3, 0, none⟩)] w1 _
  by_cases hq : q2 = 0
  · subst hq
    rw [if_pos rfl] at h
    injection h with h
    injection h with hh1 hh2
    subst hh1 hh2
    go_enter Try.func111, Try.ntmps111
    go_wp2_with (go_at_call 50; have hal := (Below.refl w1.heap.size w1).alloc (Nat.le_refl _) (.cells #[.int .u64 c.f0, .int .u64 c.f1, .int .u64 c.f2, .int .u64 c.f3, .int .u64 c.f4, .slice A1 c.f5.length c1, .bool c.f6] 25); have hal2 := below_then hal (show w1.heap.size ≤ (w1.alloc (.cells #[.int .u64 c.f0, .int .u64 c.f1, .int .u64 c.f2, .int .u64 c.f3, .int .u64 c.f4, .slice A1 c.f5.length c1, .bool c.f6] 25)).heap.size by simp) ((Below.refl (w1.alloc (.cells #[.int .u64 c.f0, .int .u64 c.f1, .int .u64 c.f2, .int .u64 c.f3, .int .u64 c.f4, .slice A1 c.f5.length c1, .bool c.f6] 25)).heap.size (w1.alloc (.cells #[.int .u64 c.f0, .int .u64 c.f1, .int .u64 c.f2, .int .u64 c.f3, .int .u64 c.f4, .slice A1 c.f5.length c1, .bool c.f6] 25))).alloc (Nat.le_refl _) (.cells #[.int .u64 0, .int .u64 0, .int .u64 0, .int .u64 0, .int .u64 0, .slice none 0 0, .bool false] 25)); have HB := aM_ hal2; have HK := aM_ (blk_below (blk_new w1 (.cells #[.int .u64 c.f0, .int .u64 c.f1, .int .u64 c.f2, .int .u64 c.f3, .int .u64 c.f4, .slice A1 c.f5.length c1, .bool c.f6] 25)) ((Below.refl (w1.alloc (.cells #[.int .u64 c.f0, .int .u64 c.f1, .int .u64 c.f2, .int .u64 c.f3, .int .u64 c.f4, .slice A1 c.f5.length c1, .bool c.f6] 25)).heap.size (w1.alloc (.cells #[.int .u64 c.f0, .int .u64 c.f1, .int .u64 c.f2, .int .u64 c.f3, .int .u64 c.f4, .slice A1 c.f5.length c1, .bool c.f6] 25))).alloc (Nat.le_refl _) (.cells #[.int .u64 0, .int .u64 0, .int .u64 0, .int .u64 0, .int .u64 0, .slice none 0 0, .bool false] 25))); have HK5 := aM_ (blk_new2 w1 (.cells #[.int .u64 c.f0, .int .u64 c.f1, .int .u64 c.f2, .int .u64 c.f3, .int .u64 c.f4, .slice A1 c.f5.length c1, .bool c.f6] 25) (.cells #[.int .u64 0, .int .u64 0, .int .u64 0, .int .u64 0, .int .u64 0, .slice none 0 0, .bool false] 25)); refine (ledger_Where.calls k A0 c0 l hold q1 0 _ (Kd.C_below HR0.out HB.out) HC0.out HF1.out).mono ?_; rintro e w2 ⟨rfl, hb⟩; clear HF1; replace HB := aM_ (below_then HB.out HB.out.size hb); replace HK := aM_ (blk_below HK.out hb); replace HK5 := aM_ (blk_below HK5.out hb); replace hb2 := (HB.out.cell hlt2).trans hb2; replace hb3 := (HB.out.cell hlt3).trans hb3; obtain ⟨hz0, hz1, hz2, hz3, hz4, hz5, hz6, hz7, hz8, hz9, hz10, hz11, hz12, hz13⟩ := cz7_ HK.out; obtain ⟨hy0, hy1, hy2, hy3, hy4, hy5, hy6, hy7, hy8, hy9, hy10, hy11, hy12, hy13⟩ := cz7_ HK5.out; clear hal hal2 hb)
    refine bodyPost_ret (results_ct rfl _ _ (w1.heap.size + 1) 25 #[.int .u64 c.f0, .int .u64 c.f1, .int .u64 c.f2, .int .u64 c.f3, .int .u64 c.f4, .slice A1 c.f5.length c1, .bool c.f6] (0, 0) _ rfl (put7_self (w := w2) (c := c) (v := .slice A1 c.f5.length c1) HK5.out) Try.underlying25 rfl (by kernel_rfl)) rfl ?_
    exact ⟨_, _, rfl, fun h => absurd h (by decide), put7_below (c := c) (v := .slice A1 c.f5.length c1) HB.out (Nat.le_succ _)⟩
  · rw [if_neg hq] at h
    have hqb : (q2 == 0) = false := beq_eq_false_iff_ne.mpr hq
    clear hq
    obtain ⟨⟨r1, r2, r3, r4, r5, r6, r7, r8⟩, h1, h_⟩ := oB_ h
    replace h := h_
    clear h_
    have HF2 := aM_ h1
    clear h1
    injection h with h
    injection h with hh1 hh2
    dsimp only at hh1 hh2
    subst hh1 hh2
    go_enter Try.func111, Try.ntmps111
    go_wp2_with (first | (go_at_call 50; have hal := (Below.refl w1.heap.size w1).alloc (Nat.le_refl _) (.cells #[.int .u64 c.f0, .int .u64 c.f1, .int .u64 c.f2, .int .u64 c.f3, .int .u64 c.f4, .slice A1 c.f5.length c1, .bool c.f6] 25); have hal2 := below_then hal (show w1.heap.size ≤ (w1.alloc (.cells #[.int .u64 c.f0, .int .u64 c.f1, .int .u64 c.f2, .int .u64 c.f3, .int .u64 c.f4, .slice A1 c.f5.length c1, .bool c.f6] 25)).heap.size by simp) ((Below.refl (w1.alloc (.cells #[.int .u64 c.f0, .int .u64 c.f1, .int .u64 c.f2, .int .u64 c.f3, .int .u64 c.f4, .slice A1 c.f5.length c1, .bool c.f6] 25)).heap.size (w1.alloc (.cells #[.int .u64 c.f0, .int .u64 c.f1, .int .u64 c.f2, .int .u64 c.f3, .int .u64 c.f4, .slice A1 c.f5.length c1, .bool c.f6] 25))).alloc (Nat.le_refl _) (.cells #[.int .u64 0, .int .u64 0, .int .u64 0, .int .u64 0, .int .u64 0, .slice none 0 0, .bool false] 25)); have HB := aM_ hal2; have HK := aM_ (blk_below (blk_new w1 (.cells #[.int .u64 c.f0, .int .u64 c.f1, .int .u64 c.f2, .int .u64 c.f3, .int .u64 c.f4, .slice A1 c.f5.length c1, .bool c.f6] 25)) ((Below.refl (w1.alloc (.cells #[.int .u64 c.f0, .int .u64 c.f1, .int .u64 c.f2, .int .u64 c.f3, .int .u64 c.f4, .slice A1 c.f5.length c1, .bool c.f6] 25)).heap.size (w1.alloc (.cells #[.int .u64 c.f0, .int .u64 c.f1, .int .u64 c.f2, .int .u64 c.f3, .int .u64 c.f4, .slice A1 c.f5.length c1, .bool c.f6] 25))).alloc (Nat.le_refl _) (.cells #[.int .u64 0, .int .u64 0, .int .u64 0, .int .u64 0, .int .u64 0, .slice none 0 0, .bool false] 25))); have HK5 := aM_ (blk_new2 w1 (.cells #[.int .u64 c.f0, .int .u64 c.f1, .int .u64 c.f2, .int .u64 c.f3, .int .u64 c.f4, .slice A1 c.f5.length c1, .bool c.f6] 25) (.cells #[.int .u64 0, .int .u64 0, .int .u64 0, .int .u64 0, .int .u64 0, .slice none 0 0, .bool false] 25)); refine (ledger_Where.calls k A0 c0 l hold q1 q2 _ (Kd.C_below HR0.out HB.out) HC0.out HF1.out).mono ?_; rintro e w2 ⟨rfl, hb⟩; clear HF1; replace HB := aM_ (below_then HB.out HB.out.size hb); replace HK := aM_ (blk_below HK.out hb); replace HK5 := aM_ (blk_below HK5.out hb); replace hb2 := (HB.out.cell hlt2).trans hb2; replace hb3 := (HB.out.cell hlt3).trans hb3; obtain ⟨hz0, hz1, hz2, hz3, hz4, hz5, hz6, hz7, hz8, hz9, hz10, hz11, hz12, hz13⟩ := cz7_ HK.out; obtain ⟨hy0, hy1, hy2, hy3, hy4, hy5, hy6, hy7, hy8, hy9, hy10, hy11, hy12, hy13⟩ := cz7_ HK5.out; clear hal hal2 hb) | (go_at_call 23; refine (channel_Hold.calls k c.f0 c.f1 c.f2 c.f3 c.f4 A1 c1 c.f5 c.f6 hold n r1 r2 r3 r4 r5 r6 r7 r8 _ (Kd.C_below HI5.out HB.out) HL5.out HF2.out).mono ?_; rintro e w3 ⟨v5, rfl, ho, hb⟩; clear HF2; obtain ⟨An, cn, hv⟩ := Kd.R_slice ho; subst hv; have HR := aM_ (Kd.R_bound ho); have HS := aM_ (blk_lt HK5.out); clear hz0 hz1 hz2 hz3 hz4 hz5 hz6 hz7 hz8 hz9 hz10 hz11 hz12 hz13 hy0 hy1 hy2 hy3 hy4 hy5 hy6 hy7 hy8 hy9 hy10 hy11 hy12 hy13; replace HB := aM_ (below_then HB.out HB.out.size hb); replace HK := aM_ (blk_below HK.out hb); replace HK5 := aM_ (blk_below HK5.out hb); obtain ⟨hz0, hz1, hz2, hz3, hz4, hz5, hz6, hz7, hz8, hz9, hz10, hz11, hz12, hz13⟩ := cz7_ HK.out; obtain ⟨hy0, hy1, hy2, hy3, hy4, hy5, hy6, hy7, hy8, hy9, hy10, hy11, hy12, hy13⟩ := cz7_ HK5.out; clear ho hb))
    have hR7 := put7_R (w := w3) (g := w1.heap.size + 1) (c := (⟨r1, r2, r3, r4, r5, r6, r7⟩ : S25)) (v := .slice An r6.length cn) HR.out (fun k_ hk => by have := HS.out; omega)
    refine bodyPost_ret (results_ct rfl _ _ (w1.heap.size + 1) 25 #[.int .u64 r1, .int .u64 r2, .int .u64 r3, .int .u64 r4, .int .u64 r5, .slice An r6.length cn, .bool r7] (0, 0) _ rfl (put7_self (w := w3) (c := (⟨r1, r2, r3, r4, r5, r6, r7⟩ : S25)) (v := .slice An r6.length cn) HK5.out) Try.underlying25 rfl (by kernel_rfl)) rfl ?_
    exact ⟨_, _, rfl, fun _ => ⟨An, cn, rfl, (Kd.R_reads' hR7).2.1, (Kd.R_reads' hR7).2.2, row44_of_R hR7 (by have := HS.out; omega)⟩, put7_below (c := (⟨r1, r2, r3, r4, r5, r6, r7⟩ : S25)) (v := .slice An r6.length cn) HB.out (Nat.le_succ _)⟩
/-- Three boxes at once. -/
theorem boxes3 (w : World) (v1 v2 v3 : Value) (t1 t2 t3 : TypeId) : Below w.heap.size w (((w.alloc (.cells #[v1] t1)).alloc (.cells #[v2] t2)).alloc (.cells #[v3] t3)) ∧
    (((w.alloc (.cells #[v1] t1)).alloc (.cells #[v2] t2)).alloc (.cells #[v3] t3)).cell? ⟨w.heap.size, 0, none⟩ = some v1 ∧
    (((w.alloc (.cells #[v1] t1)).alloc (.cells #[v2] t2)).alloc (.cells #[v3] t3)).cell? ⟨w.heap.size + 1, 0, none⟩ = some v2 ∧
    (((w.alloc (.cells #[v1] t1)).alloc (.cells #[v2] t2)).alloc (.cells #[v3] t3)).cell? ⟨w.heap.size + 2, 0, none⟩ = some v3 := by
  have b1 := (Below.refl w.heap.size w).alloc (Nat.le_refl _) (.cells #[v1] t1)
  have b2 := b1.alloc b1.size (.cells #[v2] t2)
  have b3 := b2.alloc b2.size (.cells #[v3] t3)
  have s1 : (w.alloc (.cells #[v1] t1)).heap.size = w.heap.size + 1 := by simp
  have s2 : ((w.alloc (.cells #[v1] t1)).alloc (.cells #[v2] t2)).heap.size = w.heap.size + 2 := by simp
  have k1 := blk_new w (.cells #[v1] t1)
  have k1' := blk_below k1 ((Below.refl _ (w.alloc (.cells #[v1] t1))).alloc (Nat.le_refl _) (.cells #[v2] t2))
  have c2 := (Below.refl _ ((w.alloc (.cells #[v1] t1)).alloc (.cells #[v2] t2))).alloc (Nat.le_refl _) (.cells #[v3] t3)
  have k1'' := blk_below k1' c2
  have k2 := blk_new2 w (.cells #[v1] t1) (.cells #[v2] t2)
  have k2' := blk_below k2 c2
  have k3 := blk_new ((w.alloc (.cells #[v1] t1)).alloc (.cells #[v2] t2)) (.cells #[v3] t3)
  rw [s2] at k3
  exact ⟨b3, (blk_cell k1'' 0).trans rfl, (blk_cell k2' 0).trans rfl, (blk_cell k3 0).trans rfl⟩
def ledger_Hold.g (k : Nat) (l : List S25) (id hold n : Int) : Option (List S25 × Int) := ledger_change.g k l id (ledger_Hold.how k l hold n)
set_option maxHeartbeats 16000000 in
set_option maxRecDepth 100000 in
theorem ledger_Hold.callsS (k : Nat) (A0 : Option Addr) (c0 : Nat) (l : List S25) (id hold n : Int) (r : List S25) (er : Int) (w : World) (hr0 : Kd.C k25 w A0 l.length l) (hc0 : l.length ≤ c0) (h : ledger_Hold.g k l id hold n = some (r, er)) :
    Calls Try.prog 57 #[.slice A0 l.length c0, .int .u64 id, .int .u64 hold, .int .u64 n] w fun e w' => ∃ v : Value, e = .returned (.tuple #[v, .int .i64 er]) ∧ Own25 w' w.heap.size v r ∧ Below w.heap.size w w' := by
  have HF := aM_ h
  have HR0 := aM_ hr0
  have HC0 := aM_ hc0
  have HX := aM_ (boxes3 w (.slice A0 l.length c0) (.int .u64 hold) (.int .u64 n) 47 22 22)
  clear hr0 hc0 h
  go_enter Try.func57, Try.ntmps57
  go_wp2_with (go_at_call 110; go_loud (refine (ledger_change.callsS_111 k A0 c0 l id (.pointer (some ⟨w.heap.size, 0, none⟩)) (.pointer (some ⟨w.heap.size + 1, 0, none⟩)) (.pointer (some ⟨w.heap.size + 2, 0, none⟩)) (ledger_Hold.how k l hold n) r er _ (Kd.C_below HR0.out HX.out.1) HC0.out (ledger_Hold.hows k A0 c0 l hold n w.heap.size (w.heap.size + 1) (w.heap.size + 2) _ (Kd.C_below HR0.out HX.out.1) HC0.out HX.out.2.1 HX.out.2.2.1 HX.out.2.2.2) HF.out).mono ?_; rintro e w1 ⟨v, rfl, ho, hb⟩; have HB := aM_ (below_then HX.out.1 HX.out.1.size hb); have HO := aM_ (ho.lower HX.out.1.size); clear HX ho hb))
  go_ret2
  exact ⟨_, rfl, HO.out, HB.out⟩
theorem ledger_Hold.mono_how (l : List S25) (hold n : Int) (c : S25) (k : Nat) : LeO (ledger_Hold.how k l hold n c) (ledger_Hold.how (k + 1) l hold n c) := by
  unfold ledger_Hold.how
  repeat' first
    | (with_reducible exact LeO.refl _)
    | apply ledger_Where.mono
    | apply channel_Hold.mono
    | (with_reducible refine LeO.ite ?_ ?_)
    | (with_reducible refine LeO.bind ?_ (fun _ => ?_))
theorem ledger_Hold.mono_g (l : List S25) (id hold n : Int) (k : Nat) : LeO (ledger_Hold.g k l id hold n) (ledger_Hold.g (k + 1) l id hold n) := ledger_change.mono_g l id _ _ (fun c => ledger_Hold.mono_how l hold n c k) k

/-! ### damsonlaw10_live: function 44 (by hand) -/
theorem nil25 (w : World) : Kd.C k25 w none 0 [] := Kd.C_nil k25 w
theorem nil44 (w : World) : Kd.C k44 w none 0 [] := Kd.C_nil k44 w
def damsonlaw10_live.f (k : Nat) : Option Bool := (ledger_Open.g k [] (⟨1, 10, 0, 0, 10, [], true⟩ : S25)).bind fun p1 => if p1.2 = 0 then (ledger_Open.g k p1.1 (⟨2, 10, 0, 0, 10, [], true⟩ : S25)).bind fun p2 => if p2.2 = 0 then (ledger_Hold.g k p2.1 1 7 3).bind fun p3 => if p3.2 = 0 then (ledger_Hold.g k p3.1 2 7 3).bind fun p4 => if p4.2 = 6 then some true else none else none else none else none
set_option maxHeartbeats 16000000 in
set_option maxRecDepth 100000 in
theorem damsonlaw10_live.calls (k : Nat) (r : Bool) (w : World) (h : damsonlaw10_live.f k = some r) :
    Calls Try.prog 44 #[] w fun e w' => e = .returned (.bool r) ∧ Below w.heap.size w w' := by
  unfold damsonlaw10_live.f at h
  obtain ⟨⟨l1, e1⟩, h1, h_⟩ := oB_ h
  replace h := h_
  clear h_
  have HF1 := aM_ h1
  clear h1
  try dsimp only at h
  by_cases he : e1 = 0
  case neg => rw [if_neg he] at h; cases h
  subst he
  rw [if_pos rfl] at h
  obtain ⟨⟨l2, e2⟩, h1, h_⟩ := oB_ h
  replace h := h_
  clear h_
  have HF2 := aM_ h1
  clear h1
  try dsimp only at h
  by_cases he : e2 = 0
  case neg => rw [if_neg he] at h; cases h
  subst he
  rw [if_pos rfl] at h
  obtain ⟨⟨l3, e3⟩, h1, h_⟩ := oB_ h
  replace h := h_
  clear h_
  have HF3 := aM_ h1
  clear h1
  try dsimp only at h
  by_cases he : e3 = 0
  case neg => rw [if_neg he] at h; cases h
  subst he
  rw [if_pos rfl] at h
  obtain ⟨⟨l4, e4⟩, h1, h_⟩ := oB_ h
  replace h := h_
  clear h_
  have HF4 := aM_ h1
  clear h1
  try dsimp only at h
  by_cases he : e4 = 6
  case neg => rw [if_neg he] at h; cases h
  subst he
  rw [if_pos rfl] at h
  injection h with h
  subst h
  go_enter Try.func44, Try.ntmps44
  go_wp2_with (first | (go_at_call 46; refine (ledger_Open.callsS k none 0 [] (⟨1, 10, 0, 0, 10, [], true⟩ : S25) none 0 l1 0 _ (nil25 _) (Nat.le_refl _) (nil44 _) (Nat.le_refl _) HF1.out).mono ?_; rintro e w1 ⟨v, rfl, ho, hb⟩; clear HF1; have HB := aM_ hb; obtain ⟨A1, c1, hv, hc, hC⟩ := ho.reads; subst hv; have HC1 := aM_ hc; have HR1 := aM_ hC; clear ho hb hc hC) | (go_at_call 46; refine (ledger_Open.callsS k A1 c1 l1 (⟨2, 10, 0, 0, 10, [], true⟩ : S25) none 0 l2 0 _ HR1.out HC1.out (nil44 _) (Nat.le_refl _) HF2.out).mono ?_; rintro e w2 ⟨v, rfl, ho, hb⟩; clear HF2; replace HB := aM_ (below_then HB.out HB.out.size hb); obtain ⟨A2, c2, hv, hc, hC⟩ := ho.reads; subst hv; have HC2 := aM_ hc; have HR2 := aM_ hC; clear ho hb hc hC) | (go_at_call 57; refine (ledger_Hold.callsS k A2 c2 l2 1 7 3 l3 0 _ HR2.out HC2.out HF3.out).mono ?_; rintro e w3 ⟨v, rfl, ho, hb⟩; clear HF3; replace HB := aM_ (below_then HB.out HB.out.size hb); obtain ⟨A3, c3, hv, hc, hC⟩ := ho.reads; subst hv; have HC3 := aM_ hc; have HR3 := aM_ hC; clear ho hb hc hC) | (go_at_call 57; refine (ledger_Hold.callsS k A3 c3 l3 2 7 3 l4 6 _ HR3.out HC3.out HF4.out).mono ?_; rintro e w4 ⟨v, rfl, ho, hb⟩; clear HF4; replace HB := aM_ (below_then HB.out HB.out.size hb); obtain ⟨A4, c4, hv, hc, hC⟩ := ho.reads; subst hv; have HC4 := aM_ hc; have HR4 := aM_ hC; clear ho hb hc hC))
  go_ret
  exact ⟨rfl, HB.out⟩
theorem damsonlaw10_live.mono : ∀ k, LeO (damsonlaw10_live.f k) (damsonlaw10_live.f (k + 1)) := by
  intro k
  unfold damsonlaw10_live.f
  repeat' first
    | (with_reducible exact LeO.refl _)
    | apply ledger_Open.mono_g
    | apply ledger_Hold.mono_g
    | (with_reducible refine LeO.ite ?_ ?_)
    | (with_reducible refine LeO.bind ?_ (fun _ => ?_))

/-! ### damsonref10_Few: function 45 -/
def damsonref10_Few.l0 : Nat → List (S25) → List (S25) → Int → Int → Option (Bool)
  | 0, _, _, _, _ => none
  | k + 1, x0, x5, x6, x7 => if x7 < x6 then (if 0 ≤ x7 then (if x7 < (x5.length : Int) then (if (((rd_T25 x5 x7).f5).length : Int) > 20 then (some false) else (damsonref10_Few.l0 k x0 x5 x6 (wrap64 (x7 + 1)))) else (none)) else (none)) else (some (decide ((x0.length : Int) ≤ 34)))
def damsonref10_Few.f (k : Nat) (l0 : List (S25)) : Option (Bool) := damsonref10_Few.l0 k l0 l0 (l0.length : Int) 0
theorem damsonref10_Few.mono_l : ∀ k, (∀ y0 y1 y2 y3, LeO (damsonref10_Few.l0 k y0 y1 y2 y3) (damsonref10_Few.l0 (k + 1) y0 y1 y2 y3))
  | 0 => fun _ _ _ _ r h => by simp [damsonref10_Few.l0] at h
  | k + 1 => by
    have ih0 := damsonref10_Few.mono_l k
    · intro y0 y1 y2 y3
      unfold damsonref10_Few.l0
      repeat' first
      | (with_reducible exact ih0 _ _ _ _)
      | (with_reducible exact LeO.refl _)
      | (with_reducible refine LeO.ite ?_ ?_)
      | exact ih0 _ _ _ _
      | exact LeO.none _
      | refine LeO.ite ?_ ?_
      | refine LeO.bind ?_ (fun _ => ?_)
theorem damsonref10_Few.mono : ∀ a0 k, LeO (damsonref10_Few.f k a0) (damsonref10_Few.f (k + 1) a0) := by
  intro a0 k
  have ih0 := damsonref10_Few.mono_l k
  unfold damsonref10_Few.f
  repeat' first
      | (with_reducible exact ih0 _ _ _ _)
      | exact ih0 _ _ _ _
      | exact LeO.none _
      | refine LeO.ite ?_ ?_
      | refine LeO.bind ?_ (fun _ => ?_)
set_option maxHeartbeats 8000000 in
set_option maxRecDepth 100000 in
theorem damsonref10_Few.calls (k : Nat) (A0 : Option Addr) (c0 : Nat) (l0 : List (S25)) (r : Bool) (w : World) (hr0 : Kd.C k25 w A0 l0.length l0) (hc0 : l0.length ≤ c0) (h : damsonref10_Few.f k l0 = some r) :
    Calls Try.prog 45 #[.slice A0 l0.length c0] w fun e w' => e = .returned (.bool r) ∧ Below w.heap.size w w' := by
  have hu25 := Try.underlying25
  have HR0 := aM_ hr0
  have HC0 := aM_ hc0
  clear hr0 hc0
  have HB := aM_ (Below.refl w.heap.size w)
  have H : (damsonref10_Few.l0 k l0 l0 (l0.length : Int) 0) = some r := h
  clear h
  have H' := aM_ H
  clear H
  go_enter Try.func45, Try.ntmps45
  go_wp2
  go_loopg [7] k (fun kq v7 w' => ∃ (x7_1 : Int), v7 = .int .i64 x7_1 ∧ Aside0 (damsonref10_Few.l0 kq l0 l0 (l0.length : Int) x7_1 = some r) ∧ Aside0 (kq ≤ k) ∧ Aside0 (Below w.heap.size w w'))
  case atStart => exact ⟨(0), (by (rfl)), H', ⟨Nat.le_refl _⟩, ⟨by repeat (((with_reducible (exact HB.out))))⟩⟩
  case round =>
    clear H'
    obtain ⟨x7_1, rfl, HA, HK1, HB⟩ := hrel
    cases gk with
    | zero => exact absurd HA.out (by simp [damsonref10_Few.l0])
    | succ k1 =>
      have H := HA.out
      clear HA
      simp only [damsonref10_Few.l0] at H
      by_cases c2 : x7_1 < (l0.length : Int)
      · rw [if_pos c2] at H
        have c2b0 := decide_eq_true c2
        clear c2
        by_cases c3 : 0 ≤ x7_1
        · rw [if_pos c3] at H
          have c3b0 := decide_eq_true c3
          clear c3
          by_cases c4 : x7_1 < (l0.length : Int)
          · rw [if_pos c4] at H
            have c4b0 := decide_eq_true c4
            clear c4
            by_cases c5 : (((rd_T25 l0 x7_1).f5).length : Int) > 20
            · rw [if_pos c5] at H
              have c5b0 : decide (20 < (((rd_T25 l0 x7_1).f5).length : Int)) = true := decide_eq_true c5
              have c5b1 : decide (20 < ((rd_T25 l0 x7_1).f5).length) = true := decide_eq_true (by omega)
              clear c5
              obtain rfl := Option.some.inj H
              have p175 : 0 ≤ (x7_1 : Int) := of_decide_eq_true (by ((with_reducible assumption)))
              have q175 : x7_1 < (l0.length : Int) := of_decide_eq_true (by ((with_reducible assumption)))
              obtain ⟨ad175, A175_5, c175_5, e175, hx175_0, hx175_1, hx175_2, hx175_3, hx175_4, hx175_5, hx175_6, hl175_5, hi175_5⟩ := at_T25 HR0.out x7_1 p175 q175
              cases e175
              replace hx175_0 := cN_ HB hx175_0
              replace hx175_1 := cN_ HB hx175_1
              replace hx175_2 := cN_ HB hx175_2
              replace hx175_3 := cN_ HB hx175_3
              replace hx175_4 := cN_ HB hx175_4
              replace hx175_5 := cN_ HB hx175_5
              replace hx175_6 := cN_ HB hx175_6
              have HR175_5 := aM_ hi175_5
              have HC175_5 := aM_ hl175_5
              clear hi175_5 hl175_5
              replace p175 := eq_true p175
              replace q175 := eq_true q175
              go_wp2_with ((((with_reducible refine gate_dst (N := 4) rfl ?_); refine box_event ?hg (N := 4) ?hd (cs := #[.int .u64 0, .int .u64 0, .int .u64 0, .int .u64 0, .int .u64 0, .slice none 0 0, .bool false]) (t := 25) ?hr ?_; (case hd => rfl); (case hg => rfl); (case hr => ((go_simp; done))); intro gb176 hg w6 hbox hb; have BK176 := aM_ (hbox); have GW176 := aM_ (geN HB hg); have GE176 := aM_ (geN HB hg); replace HB := bsA_ HB hb; clear hb hbox hg; obtain ⟨hcz7_0, hcz7_1, hcz7_2, hcz7_3, hcz7_4, hcz7_5, hcz7_6, hfz7_0, hfz7_1, hfz7_2, hfz7_3, hfz7_4, hfz7_5, hfz7_6⟩ := cz7_ (w := w6) BK176.out)))
              go_ret
              exact ⟨by (rfl), by repeat (((with_reducible first | exact HB.out | refine below_set ?_ GE176.out)))⟩
            · rw [if_neg c5] at H
              have c5b0 : decide (20 < (((rd_T25 l0 x7_1).f5).length : Int)) = false := decide_eq_false c5
              have c5b1 : decide (20 < ((rd_T25 l0 x7_1).f5).length) = false := decide_eq_false (by omega)
              clear c5
              have H' := aM_ H
              clear H
              have p175 : 0 ≤ (x7_1 : Int) := of_decide_eq_true (by ((with_reducible assumption)))
              have q175 : x7_1 < (l0.length : Int) := of_decide_eq_true (by ((with_reducible assumption)))
              obtain ⟨ad175, A175_5, c175_5, e175, hx175_0, hx175_1, hx175_2, hx175_3, hx175_4, hx175_5, hx175_6, hl175_5, hi175_5⟩ := at_T25 HR0.out x7_1 p175 q175
              cases e175
              replace hx175_0 := cN_ HB hx175_0
              replace hx175_1 := cN_ HB hx175_1
              replace hx175_2 := cN_ HB hx175_2
              replace hx175_3 := cN_ HB hx175_3
              replace hx175_4 := cN_ HB hx175_4
              replace hx175_5 := cN_ HB hx175_5
              replace hx175_6 := cN_ HB hx175_6
              have HR175_5 := aM_ hi175_5
              have HC175_5 := aM_ hl175_5
              clear hi175_5 hl175_5
              replace p175 := eq_true p175
              replace q175 := eq_true q175
              go_wp2_with ((((with_reducible refine gate_dst (N := 4) rfl ?_); refine box_event ?hg (N := 4) ?hd (cs := #[.int .u64 0, .int .u64 0, .int .u64 0, .int .u64 0, .int .u64 0, .slice none 0 0, .bool false]) (t := 25) ?hr ?_; (case hd => rfl); (case hg => rfl); (case hr => ((go_simp; done))); intro gb176 hg w8 hbox hb; have BK176 := aM_ (hbox); have GW176 := aM_ (geN HB hg); have GE176 := aM_ (geN HB hg); replace HB := bsA_ HB hb; clear hb hbox hg; obtain ⟨hcz9_0, hcz9_1, hcz9_2, hcz9_3, hcz9_4, hcz9_5, hcz9_6, hfz9_0, hfz9_1, hfz9_2, hfz9_3, hfz9_4, hfz9_5, hfz9_6⟩ := cz7_ (w := w8) BK176.out)))
              go_roundg k1
              case measure => have := HK1.out; omega
              case rel => exact ⟨(wrap64 (x7_1 + 1)), (by (rfl)), H', ⟨by have := HK1.out; omega⟩, ⟨by repeat (((with_reducible first | exact HB.out | refine below_set ?_ GE176.out)))⟩⟩
          · rw [if_neg c4] at H
            exact absurd H (by simp)
        · rw [if_neg c3] at H
          exact absurd H (by simp)
      · rw [if_neg c2] at H
        have c2b0 := decide_eq_false c2
        clear c2
        obtain rfl := Option.some.inj H
        go_wp2
        go_ret
        exact ⟨by (rfl), by repeat (((with_reducible (exact HB.out))))⟩

end Go.Proofs.Ytcfbcoinbecdfaa.P
