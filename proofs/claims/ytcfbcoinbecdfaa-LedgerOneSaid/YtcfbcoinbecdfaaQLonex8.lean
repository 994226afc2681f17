-- written by a program of this session (wip/print)
import Derived.Test.YtcfbcoinbecdfaaQLonex0
import Derived.Test.YtcfbcoinbecdfaaQLonex2
import Derived.Test.YtcfbcoinbecdfaaQLonex5
import Derived.Test.YtcfbcoinbecdfaaQLonex6
import Derived.Test.YtcfbcoinbecdfaaQLonex7
namespace Go.Proofs.Ytcfbcoinbecdfaa.P
open Go.RowKit Go.Proofs.YtcfbcoinbecdfaaW.PrintWords Go.Proofs.YtcfbcoinbecdfaaW.PrintLast Go.Proofs.YtcfbcoinbecdfaaW.PrintMore
attribute [local go_sem] max2_int min2_int max_two min_two max_three min_three max_four min_four run_sub64_   -- for this text's walks alone
set_option linter.unusedVariables false
set_option linter.unusedSimpArgs false

/-! ### ledger_change: function 110 (by hand) -/
def ledger_change.g (k : Nat) (l : List S25) (id : Int) (how : S25 → Option (S25 × Int)) : Option (List S25 × Int) := (ledger_place.f k l id).bind fun p => if p.2 = 0 then (if 0 ≤ p.1 ∧ p.1 < (l.length : Int) then (how (rd_T25 l p.1)).bind fun q => if q.2 = 0 then (ledger_owns.f l).bind fun m => some (m.set p.1.toNat q.1, 0) else some ([], q.2) else none) else some ([], p.2)
/-- What a function handed to change does at a channel. -/
def HowAt (w : World) (n : FuncId) (caps : List Value) (how : S25 → Option (S25 × Int)) : Prop := ∀ (c : S25) (A1 : Option Addr) (c1 : Nat) (c2 : S25) (e2 : Int) (w1 : World), Below w.heap.size w w1 → Kd.C k44 w1 A1 c.f5.length c.f5 → c.f5.length ≤ c1 → how c = some (c2, e2) → Calls Try.prog n (#[.agg #[.int .u64 c.f0, .int .u64 c.f1, .int .u64 c.f2, .int .u64 c.f3, .int .u64 c.f4, .slice A1 c.f5.length c1, .bool c.f6]] ++ caps.toArray) w1 fun e w2 => ∃ A6 c6, e = .returned (.tuple #[.agg #[.int .u64 c2.f0, .int .u64 c2.f1, .int .u64 c2.f2, .int .u64 c2.f3, .int .u64 c2.f4, .slice A6 c2.f5.length c6, .bool c2.f6], .int .i64 e2]) ∧ (e2 = 0 → Ch w2 w1.heap.size c2 [.int .u64 c2.f0, .int .u64 c2.f1, .int .u64 c2.f2, .int .u64 c2.f3, .int .u64 c2.f4, .slice A6 c2.f5.length c6, .bool c2.f6]) ∧ Below w1.heap.size w1 w2
theorem Rows25.set {w w1 : World} {B i g : Nat} {l : List S25} {rows : List (List Value)} {c2 : S25} {cs : List Value} {cur : Array Value} (h : Rows25 w B l rows) (hn : Ch w B c2 cs) (hg : w.grownBy w1 (some g)) (hc : w.heap[g]? = some (.cells cur 25 (0, 0))) : Rows25 w1 B (l.set i c2) (rows.set i cs) := by
  intro j y hj
  by_cases e : j = i
  · subst e
    have hjl : j < l.length := by have := (List.getElem?_eq_some_iff.1 hj).1; rwa [List.length_set] at this
    rw [List.getElem?_set_self hjl] at hj
    injection hj with hj
    subst hj
    obtain ⟨c0, q1, _⟩ := h j _ (List.getElem?_eq_getElem hjl)
    exact ⟨cs, List.getElem?_set_self (List.getElem?_eq_some_iff.1 q1).1, hn.grown hg hc⟩
  · rw [List.getElem?_set_ne (by omega)] at hj
    obtain ⟨c0, q1, q2⟩ := h j y hj
    exact ⟨c0, by rw [List.getElem?_set_ne (by omega)]; exact q1, q2.grown hg hc⟩
set_option maxHeartbeats 16000000 in
set_option maxRecDepth 100000 in
theorem ledger_change.callsS_111 (k : Nat) (A0 : Option Addr) (c0 : Nat) (l : List S25) (id : Int) (p1 : Value) (p2 : Value) (p3 : Value) (how : S25 → Option (S25 × Int)) (r : List S25) (er : Int) (w : World) (hr0 : Kd.C k25 w A0 l.length l) (hc0 : l.length ≤ c0) (hw : HowAt w 111 [p1, p2, p3] how) (h : ledger_change.g k l id how = some (r, er)) :
    Calls Try.prog 110 #[.slice A0 l.length c0, .int .u64 id, .func (.func 111) #[] #[p1, p2, p3]] w fun e w' => ∃ v : Value, e = .returned (.tuple #[v, .int .i64 er]) ∧ Own25 w' w.heap.size v r ∧ Below w.heap.size w w' := by
  have HR0 := Aside0.mk hr0
  have HC0 := Aside0.mk hc0
  have HW := Aside0.mk hw
  clear hr0 hc0 hw
  have HB := Aside0.mk (Below.refl w.heap.size w)
  unfold ledger_change.g at h
  obtain ⟨⟨pi, pe⟩, h1, h_⟩ := Option.bind_eq_some_iff.mp h
  replace h := h_
  clear h_
  have HF1 := Aside0.mk h1
  clear h1
  dsimp only at h
  by_cases hpe : pe = 0
  case neg =>
    rw [if_neg hpe] at h
    have hpeb : (pe != 0) = true := bne_iff_ne.mpr hpe
    clear hpe
    injection h with h
    injection h with hh1 hh2
    subst hh1 hh2
    go_enter Try.func110, Try.ntmps110
    go_wp2_with (go_at_call 104; refine (ledger_place.calls k A0 c0 l id pi pe _ HR0.out HC0.out HF1.out).mono ?_; rintro e w1 ⟨rfl, hb⟩; clear HF1; replace HB := Aside0.mk (below_then HB.out HB.out.size hb);  clear hb)
    go_ret2
    exact ⟨_, rfl, Own25.nil _ _, HB.out⟩
  subst hpe
  rw [if_pos rfl] at h
  by_cases hpi : 0 ≤ pi ∧ pi < (l.length : Int)
  case neg => rw [if_neg hpi] at h; cases h
  rw [if_pos hpi] at h
  obtain ⟨hp0, hp1⟩ := hpi
  obtain ⟨i, rfl⟩ := Int.eq_ofNat_of_zero_le hp0
  have hi : i < l.length := by omega
  obtain ⟨ad, A5, c5, ea, hx0, hx1, hx2, hx3, hx4, hx5, hx6, hl5, hi5⟩ := at_T25 HR0.out (i : Int) (by omega) (by omega)
  subst ea
  obtain ⟨c, hc⟩ : ∃ c, c = rd_T25 l (i : Int) := ⟨_, rfl⟩
  rw [← hc] at h
  simp only [← hc, Int.toNat_natCast] at hx0 hx1 hx2 hx3 hx4 hx5 hx6 hl5 hi5
  have HL5 := Aside0.mk hl5
  have HI5 := Aside0.mk hi5
  clear hl5 hi5 hc
  obtain ⟨⟨c2, e2⟩, h1, h_⟩ := Option.bind_eq_some_iff.mp h
  replace h := h_
  clear h_
  have HF2 := Aside0.mk h1
  clear h1
  dsimp only at h
  by_cases he2 : e2 = 0
  case neg =>
    rw [if_neg he2] at h
    have he2b : (e2 != 0) = true := bne_iff_ne.mpr he2
    clear he2
    injection h with h
    injection h with hh1 hh2
    subst hh1 hh2
    go_enter Try.func110, Try.ntmps110
    go_wp2_with (first | (go_at_call 104; refine (ledger_place.calls k (some ad) c0 l id (i : Int) 0 _ HR0.out HC0.out HF1.out).mono ?_; rintro e w1 ⟨rfl, hb⟩; clear HF1; replace HB := Aside0.mk (below_then HB.out HB.out.size hb); replace hx0 := (hb.cell (World.block_lt_of_cell? w _ hx0)).trans hx0; replace hx1 := (hb.cell (World.block_lt_of_cell? w _ hx1)).trans hx1; replace hx2 := (hb.cell (World.block_lt_of_cell? w _ hx2)).trans hx2; replace hx3 := (hb.cell (World.block_lt_of_cell? w _ hx3)).trans hx3; replace hx4 := (hb.cell (World.block_lt_of_cell? w _ hx4)).trans hx4; replace hx5 := (hb.cell (World.block_lt_of_cell? w _ hx5)).trans hx5; replace hx6 := (hb.cell (World.block_lt_of_cell? w _ hx6)).trans hx6;  clear hb) | (go_at_call 111; refine (HW.out c A5 c5 c2 e2 _ HB.out (Kd.C_below HI5.out HB.out) HL5.out HF2.out).mono ?_; rintro e w2 ⟨A6, c6, rfl, ho, hb⟩; clear HF2; have HO := Aside0.mk (fun q_ => (ho q_).mono HB.out.size); replace HB := Aside0.mk (below_then HB.out HB.out.size hb); clear ho hb hx0 hx1 hx2 hx3 hx4 hx5 hx6))
    go_ret2
    exact ⟨_, rfl, Own25.nil _ _, HB.out.alloc HB.out.size _⟩
  subst he2
  rw [if_pos rfl] at h
  obtain ⟨m, h1, h_⟩ := Option.bind_eq_some_iff.mp h
  replace h := h_
  clear h_
  have HF3 := Aside0.mk h1
  clear h1
  have hm : m = l := owns_eq HF3.out
  subst hm
  injection h with h
  injection h with hh1 hh2
  subst hh1 hh2
  rw [Int.toNat_natCast]
  obtain ⟨x, hx⟩ : ∃ x, m[i]? = some x := ⟨_, List.getElem?_eq_getElem hi⟩
  have HX := Aside0.mk hx
  have HI := Aside0.mk hi
  clear hx hi
  go_enter Try.func110, Try.ntmps110
  go_wp2_with (first | (go_at_call 104; refine (ledger_place.calls k (some ad) c0 m id (i : Int) 0 _ HR0.out HC0.out HF1.out).mono ?_; rintro e w1 ⟨rfl, hb⟩; clear HF1; replace HB := Aside0.mk (below_then HB.out HB.out.size hb); replace hx0 := (hb.cell (World.block_lt_of_cell? w _ hx0)).trans hx0; replace hx1 := (hb.cell (World.block_lt_of_cell? w _ hx1)).trans hx1; replace hx2 := (hb.cell (World.block_lt_of_cell? w _ hx2)).trans hx2; replace hx3 := (hb.cell (World.block_lt_of_cell? w _ hx3)).trans hx3; replace hx4 := (hb.cell (World.block_lt_of_cell? w _ hx4)).trans hx4; replace hx5 := (hb.cell (World.block_lt_of_cell? w _ hx5)).trans hx5; replace hx6 := (hb.cell (World.block_lt_of_cell? w _ hx6)).trans hx6;  clear hb) | (go_at_call 111; refine (HW.out c A5 c5 c2 0 _ HB.out (Kd.C_below HI5.out HB.out) HL5.out HF2.out).mono ?_; rintro e w2 ⟨A6, c6, rfl, ho, hb⟩; clear HF2; have HO := Aside0.mk (fun q_ => (ho q_).mono HB.out.size); replace HB := Aside0.mk (below_then HB.out HB.out.size hb); clear ho hb hx0 hx1 hx2 hx3 hx4 hx5 hx6) | (go_at_call 102; go_loud (have hal := (Below.refl w2.heap.size w2).alloc (Nat.le_refl _) (.cells #[.int .u64 c2.f0, .int .u64 c2.f1, .int .u64 c2.f2, .int .u64 c2.f3, .int .u64 c2.f4, .slice A6 c2.f5.length c6, .bool c2.f6] 25); have HBL := Aside0.mk (HB.out.alloc HB.out.size (.cells #[.int .u64 c2.f0, .int .u64 c2.f1, .int .u64 c2.f2, .int .u64 c2.f3, .int .u64 c2.f4, .slice A6 c2.f5.length c6, .bool c2.f6] 25)); have HK := Aside0.mk (blk_new w2 (.cells #[.int .u64 c2.f0, .int .u64 c2.f1, .int .u64 c2.f2, .int .u64 c2.f3, .int .u64 c2.f4, .slice A6 c2.f5.length c6, .bool c2.f6] 25)); refine (ledger_owns.calls (some ad) c0 m m _ (Kd.C_below HR0.out HBL.out) HC0.out HF3.out).mono ?_; rintro e w3 ⟨v, rfl, ho, hb⟩; clear HF3; have HB3 := Aside0.mk (below_then HBL.out HBL.out.size hb); replace HK := Aside0.mk (blk_below HK.out hb); have HCH := Aside0.mk (((HO.out trivial).below hal).below hb); obtain ⟨rows, hR, hrl, hrx⟩ := ho; have HVB := Aside0.mk (fun k_ (hk : v.ownBlock = some k_) => Nat.lt_of_lt_of_le (show w2.heap.size < (w2.alloc (.cells #[.int .u64 c2.f0, .int .u64 c2.f1, .int .u64 c2.f2, .int .u64 c2.f3, .int .u64 c2.f4, .slice A6 c2.f5.length c6, .bool c2.f6] 25)).heap.size by simp) (Kd.R_base hR k_ hk)); have HR := Aside0.mk (Kd.R_lower hR HBL.out.size); have HRL := Aside0.mk hrl; have HRX : Aside0 (Rows25 w3 w.heap.size m rows) := ⟨fun j x hj => by obtain ⟨cs, q1, q2⟩ := hrx j x hj; exact ⟨cs, q1, q2.mono HBL.out.size⟩⟩; obtain ⟨g, cap, hv, hbg, hgl, cur, hblk⟩ := Kd.R_form HR.out (by have := HRL.out; have := HI.out; omega); subst hv; obtain ⟨cs, q1, q2⟩ := HRX.out i x HX.out; obtain ⟨A7, c7, hcs, _⟩ := q2; have hCr := (Kd.R_reads' HR.out).2.2; obtain ⟨ad2, ea2, hcell⟩ := hCr.2.2 (by have := HRL.out; have := HI.out; omega); injection ea2 with ea2; subst ea2; obtain ⟨c', r1, r2, r3⟩ := hcell i cs q1; have e1 : c' = cs := r2.1; subst e1; have HCC : Aside0 (∀ j u, c'[j]? = some u → w3.cell? ⟨g, i * 7 + j, none⟩ = some u) := ⟨fun j u hj => by have := r3 j u hj; rw [add_plain] at this; exact this⟩; subst hcs; rw [HRL.out]; have HGL := Aside0.mk hgl; have HBK := Aside0.mk hblk; obtain ⟨hz0, hz1, hz2, hz3, hz4, hz5, hz6, hz7, hz8, hz9, hz10, hz11, hz12, hz13⟩ := cz7_ HK.out; clear hal HB HBL hb hR hrl hrx hbg hgl hblk q1 hCr hcell r1 r2 r3 HO)) | ((with_reducible refine gate_ (.store 25 (.tmp 37) (.tmp 36)) rfl ?_); refine Kd.R_store (Kd.raw 7) (w0 := w) w.heap.size rfl rfl 25 (.tmp 37) (.tmp 36) rfl 25 (i : Int) 0 rows [.int .u64 c2.f0, .int .u64 c2.f1, .int .u64 c2.f2, .int .u64 c2.f3, .int .u64 c2.f4, .slice A6 c2.f5.length c6, .bool c2.f6] (.agg #[.int .u64 c2.f0, .int .u64 c2.f1, .int .u64 c2.f2, .int .u64 c2.f3, .int .u64 c2.f4, .slice A6 c2.f5.length c6, .bool c2.f6]) [.int .u64 c2.f0, .int .u64 c2.f1, .int .u64 c2.f2, .int .u64 c2.f3, .int .u64 c2.f4, .slice A6 c2.f5.length c6, .bool c2.f6] [.int .u64 x.f0, .int .u64 x.f1, .int .u64 x.f2, .int .u64 x.f3, .int .u64 x.f4, .slice A7 x.f5.length c7, .bool x.f6] (fun _ => True) (fun _ => False) rfl (by rw [Int.toNat_natCast]; rfl) rfl rfl (by kernel_rfl) (by intro q hq; simp at hq; rcases hq with rfl | rfl | rfl | rfl | rfl | rfl | rfl <;> rfl) HR.out (by omega) (by have := HRL.out; have := HI.out; omega) rfl (fun j u hj => by rw [Int.toNat_natCast]; exact HCC.out j u hj) (Nat.le_refl _) ⟨rfl, rfl, (by intro q hq; simp at hq; rcases hq with rfl | rfl | rfl | rfl | rfl | rfl | rfl <;> rfl)⟩ (fun _ hk => hk.elim) HB3.out ?_; intro w4 ho3 hb3 hg3; rw [Int.toNat_natCast, HRL.out] at ho3; have HR3 := Aside0.mk ho3; have HB4 := Aside0.mk hb3; have HH3 := Aside0.mk (Rows25.set (i := i) HRX.out HCH.out hg3 HBK.out); clear ho3 hb3 hg3))
  go_ret2
  exact ⟨_, rfl, ⟨_, HR3.out, by rw [List.length_set, List.length_set]; exact HRL.out, HH3.out⟩, HB4.out⟩
set_option maxHeartbeats 16000000 in
set_option maxRecDepth 100000 in
theorem ledger_change.callsS_114 (k : Nat) (A0 : Option Addr) (c0 : Nat) (l : List S25) (id : Int) (p1 : Value) (how : S25 → Option (S25 × Int)) (r : List S25) (er : Int) (w : World) (hr0 : Kd.C k25 w A0 l.length l) (hc0 : l.length ≤ c0) (hw : HowAt w 114 [p1] how) (h : ledger_change.g k l id how = some (r, er)) :
    Calls Try.prog 110 #[.slice A0 l.length c0, .int .u64 id, .func (.func 114) #[] #[p1]] w fun e w' => ∃ v : Value, e = .returned (.tuple #[v, .int .i64 er]) ∧ Own25 w' w.heap.size v r ∧ Below w.heap.size w w' := by
  have HR0 := Aside0.mk hr0
  have HC0 := Aside0.mk hc0
  have HW := Aside0.mk hw
  clear hr0 hc0 hw
  have HB := Aside0.mk (Below.refl w.heap.size w)
  unfold ledger_change.g at h
  obtain ⟨⟨pi, pe⟩, h1, h_⟩ := Option.bind_eq_some_iff.mp h
  replace h := h_
  clear h_
  have HF1 := Aside0.mk h1
  clear h1
  dsimp only at h
  by_cases hpe : pe = 0
  case neg =>
    rw [if_neg hpe] at h
    have hpeb : (pe != 0) = true := bne_iff_ne.mpr hpe
    clear hpe
    injection h with h
    injection h with hh1 hh2
    subst hh1 hh2
    go_enter Try.func110, Try.ntmps110
    go_wp2_with (go_at_call 104; refine (ledger_place.calls k A0 c0 l id pi pe _ HR0.out HC0.out HF1.out).mono ?_; rintro e w1 ⟨rfl, hb⟩; clear HF1; replace HB := Aside0.mk (below_then HB.out HB.out.size hb);  clear hb)
    go_ret2
    exact ⟨_, rfl, Own25.nil _ _, HB.out⟩
  subst hpe
  rw [if_pos rfl] at h
  by_cases hpi : 0 ≤ pi ∧ pi < (l.length : Int)
  case neg => rw [if_neg hpi] at h; cases h
  rw [if_pos hpi] at h
  obtain ⟨hp0, hp1⟩ := hpi
  obtain ⟨i, rfl⟩ := Int.eq_ofNat_of_zero_le hp0
  have hi : i < l.length := by omega
  obtain ⟨ad, A5, c5, ea, hx0, hx1, hx2, hx3, hx4, hx5, hx6, hl5, hi5⟩ := at_T25 HR0.out (i : Int) (by omega) (by omega)
  subst ea
  obtain ⟨c, hc⟩ : ∃ c, c = rd_T25 l (i : Int) := ⟨_, rfl⟩
  rw [← hc] at h
  simp only [← hc, Int.toNat_natCast] at hx0 hx1 hx2 hx3 hx4 hx5 hx6 hl5 hi5
  have HL5 := Aside0.mk hl5
  have HI5 := Aside0.mk hi5
  clear hl5 hi5 hc
  obtain ⟨⟨c2, e2⟩, h1, h_⟩ := Option.bind_eq_some_iff.mp h
  replace h := h_
  clear h_
  have HF2 := Aside0.mk h1
  clear h1
  dsimp only at h
  by_cases he2 : e2 = 0
  case neg =>
    rw [if_neg he2] at h
    have he2b : (e2 != 0) = true := bne_iff_ne.mpr he2
    clear he2
    injection h with h
    injection h with hh1 hh2
    subst hh1 hh2
    go_enter Try.func110, Try.ntmps110
    go_wp2_with (first | (go_at_call 104; refine (ledger_place.calls k (some ad) c0 l id (i : Int) 0 _ HR0.out HC0.out HF1.out).mono ?_; rintro e w1 ⟨rfl, hb⟩; clear HF1; replace HB := Aside0.mk (below_then HB.out HB.out.size hb); replace hx0 := (hb.cell (World.block_lt_of_cell? w _ hx0)).trans hx0; replace hx1 := (hb.cell (World.block_lt_of_cell? w _ hx1)).trans hx1; replace hx2 := (hb.cell (World.block_lt_of_cell? w _ hx2)).trans hx2; replace hx3 := (hb.cell (World.block_lt_of_cell? w _ hx3)).trans hx3; replace hx4 := (hb.cell (World.block_lt_of_cell? w _ hx4)).trans hx4; replace hx5 := (hb.cell (World.block_lt_of_cell? w _ hx5)).trans hx5; replace hx6 := (hb.cell (World.block_lt_of_cell? w _ hx6)).trans hx6;  clear hb) | (go_at_call 114; refine (HW.out c A5 c5 c2 e2 _ HB.out (Kd.C_below HI5.out HB.out) HL5.out HF2.out).mono ?_; rintro e w2 ⟨A6, c6, rfl, ho, hb⟩; clear HF2; have HO := Aside0.mk (fun q_ => (ho q_).mono HB.out.size); replace HB := Aside0.mk (below_then HB.out HB.out.size hb); clear ho hb hx0 hx1 hx2 hx3 hx4 hx5 hx6))
    go_ret2
    exact ⟨_, rfl, Own25.nil _ _, HB.out.alloc HB.out.size _⟩
  subst he2
  rw [if_pos rfl] at h
  obtain ⟨m, h1, h_⟩ := Option.bind_eq_some_iff.mp h
  replace h := h_
  clear h_
  have HF3 := Aside0.mk h1
  clear h1
  have hm : m = l := owns_eq HF3.out
  subst hm
  injection h with h
  injection h with hh1 hh2
  subst hh1 hh2
  rw [Int.toNat_natCast]
  obtain ⟨x, hx⟩ : ∃ x, m[i]? = some x := ⟨_, List.getElem?_eq_getElem hi⟩
  have HX := Aside0.mk hx
  have HI := Aside0.mk hi
  clear hx hi
  go_enter Try.func110, Try.ntmps110
  go_wp2_with (first | (go_at_call 104; refine (ledger_place.calls k (some ad) c0 m id (i : Int) 0 _ HR0.out HC0.out HF1.out).mono ?_; rintro e w1 ⟨rfl, hb⟩; clear HF1; replace HB := Aside0.mk (below_then HB.out HB.out.size hb); replace hx0 := (hb.cell (World.block_lt_of_cell? w _ hx0)).trans hx0; replace hx1 := (hb.cell (World.block_lt_of_cell? w _ hx1)).trans hx1; replace hx2 := (hb.cell (World.block_lt_of_cell? w _ hx2)).trans hx2; replace hx3 := (hb.cell (World.block_lt_of_cell? w _ hx3)).trans hx3; replace hx4 := (hb.cell (World.block_lt_of_cell? w _ hx4)).trans hx4; replace hx5 := (hb.cell (World.block_lt_of_cell? w _ hx5)).trans hx5; replace hx6 := (hb.cell (World.block_lt_of_cell? w _ hx6)).trans hx6;  clear hb) | (go_at_call 114; refine (HW.out c A5 c5 c2 0 _ HB.out (Kd.C_below HI5.out HB.out) HL5.out HF2.out).mono ?_; rintro e w2 ⟨A6, c6, rfl, ho, hb⟩; clear HF2; have HO := Aside0.mk (fun q_ => (ho q_).mono HB.out.size); replace HB := Aside0.mk (below_then HB.out HB.out.size hb); clear ho hb hx0 hx1 hx2 hx3 hx4 hx5 hx6) | (go_at_call 102; go_loud (have hal := (Below.refl w2.heap.size w2).alloc (Nat.le_refl _) (.cells #[.int .u64 c2.f0, .int .u64 c2.f1, .int .u64 c2.f2, .int .u64 c2.f3, .int .u64 c2.f4, .slice A6 c2.f5.length c6, .bool c2.f6] 25); have HBL := Aside0.mk (HB.out.alloc HB.out.size (.cells #[.int .u64 c2.f0, .int .u64 c2.f1, .int .u64 c2.f2, .int .u64 c2.f3, .int .u64 c2.f4, .slice A6 c2.f5.length c6, .bool c2.f6] 25)); have HK := Aside0.mk (blk_new w2 (.cells #[.int .u64 c2.f0, .int .u64 c2.f1, .int .u64 c2.f2, .int .u64 c2.f3, .int .u64 c2.f4, .slice A6 c2.f5.length c6, .bool c2.f6] 25)); refine (ledger_owns.calls (some ad) c0 m m _ (Kd.C_below HR0.out HBL.out) HC0.out HF3.out).mono ?_; rintro e w3 ⟨v, rfl, ho, hb⟩; clear HF3; have HB3 := Aside0.mk (below_then HBL.out HBL.out.size hb); replace HK := Aside0.mk (blk_below HK.out hb); have HCH := Aside0.mk (((HO.out trivial).below hal).below hb); obtain ⟨rows, hR, hrl, hrx⟩ := ho; have HVB := Aside0.mk (fun k_ (hk : v.ownBlock = some k_) => Nat.lt_of_lt_of_le (show w2.heap.size < (w2.alloc (.cells #[.int .u64 c2.f0, .int .u64 c2.f1, .int .u64 c2.f2, .int .u64 c2.f3, .int .u64 c2.f4, .slice A6 c2.f5.length c6, .bool c2.f6] 25)).heap.size by simp) (Kd.R_base hR k_ hk)); have HR := Aside0.mk (Kd.R_lower hR HBL.out.size); have HRL := Aside0.mk hrl; have HRX : Aside0 (Rows25 w3 w.heap.size m rows) := ⟨fun j x hj => by obtain ⟨cs, q1, q2⟩ := hrx j x hj; exact ⟨cs, q1, q2.mono HBL.out.size⟩⟩; obtain ⟨g, cap, hv, hbg, hgl, cur, hblk⟩ := Kd.R_form HR.out (by have := HRL.out; have := HI.out; omega); subst hv; obtain ⟨cs, q1, q2⟩ := HRX.out i x HX.out; obtain ⟨A7, c7, hcs, _⟩ := q2; have hCr := (Kd.R_reads' HR.out).2.2; obtain ⟨ad2, ea2, hcell⟩ := hCr.2.2 (by have := HRL.out; have := HI.out; omega); injection ea2 with ea2; subst ea2; obtain ⟨c', r1, r2, r3⟩ := hcell i cs q1; have e1 : c' = cs := r2.1; subst e1; have HCC : Aside0 (∀ j u, c'[j]? = some u → w3.cell? ⟨g, i * 7 + j, none⟩ = some u) := ⟨fun j u hj => by have := r3 j u hj; rw [add_plain] at this; exact this⟩; subst hcs; rw [HRL.out]; have HGL := Aside0.mk hgl; have HBK := Aside0.mk hblk; obtain ⟨hz0, hz1, hz2, hz3, hz4, hz5, hz6, hz7, hz8, hz9, hz10, hz11, hz12, hz13⟩ := cz7_ HK.out; clear hal HB HBL hb hR hrl hrx hbg hgl hblk q1 hCr hcell r1 r2 r3 HO)) | ((with_reducible refine gate_ (.store 25 (.tmp 37) (.tmp 36)) rfl ?_); refine Kd.R_store (Kd.raw 7) (w0 := w) w.heap.size rfl rfl 25 (.tmp 37) (.tmp 36) rfl 25 (i : Int) 0 rows [.int .u64 c2.f0, .int .u64 c2.f1, .int .u64 c2.f2, .int .u64 c2.f3, .int .u64 c2.f4, .slice A6 c2.f5.length c6, .bool c2.f6] (.agg #[.int .u64 c2.f0, .int .u64 c2.f1, .int .u64 c2.f2, .int .u64 c2.f3, .int .u64 c2.f4, .slice A6 c2.f5.length c6, .bool c2.f6]) [.int .u64 c2.f0, .int .u64 c2.f1, .int .u64 c2.f2, .int .u64 c2.f3, .int .u64 c2.f4, .slice A6 c2.f5.length c6, .bool c2.f6] [.int .u64 x.f0, .int .u64 x.f1, .int .u64 x.f2, .int .u64 x.f3, .int .u64 x.f4, .slice A7 x.f5.length c7, .bool x.f6] (fun _ => True) (fun _ => False) rfl (by rw [Int.toNat_natCast]; rfl) rfl rfl (by kernel_rfl) (by intro q hq; simp at hq; rcases hq with rfl | rfl | rfl | rfl | rfl | rfl | rfl <;> rfl) HR.out (by omega) (by have := HRL.out; have := HI.out; omega) rfl (fun j u hj => by rw [Int.toNat_natCast]; exact HCC.out j u hj) (Nat.le_refl _) ⟨rfl, rfl, (by intro q hq; simp at hq; rcases hq with rfl | rfl | rfl | rfl | rfl | rfl | rfl <;> rfl)⟩ (fun _ hk => hk.elim) HB3.out ?_; intro w4 ho3 hb3 hg3; rw [Int.toNat_natCast, HRL.out] at ho3; have HR3 := Aside0.mk ho3; have HB4 := Aside0.mk hb3; have HH3 := Aside0.mk (Rows25.set (i := i) HRX.out HCH.out hg3 HBK.out); clear ho3 hb3 hg3))
  go_ret2
  exact ⟨_, rfl, ⟨_, HR3.out, by rw [List.length_set, List.length_set]; exact HRL.out, HH3.out⟩, HB4.out⟩
set_option maxHeartbeats 16000000 in
set_option maxRecDepth 100000 in
theorem ledger_change.callsS_37 (k : Nat) (A0 : Option Addr) (c0 : Nat) (l : List S25) (id : Int) (how : S25 → Option (S25 × Int)) (r : List S25) (er : Int) (w : World) (hr0 : Kd.C k25 w A0 l.length l) (hc0 : l.length ≤ c0) (hw : HowAt w 37 [] how) (h : ledger_change.g k l id how = some (r, er)) :
    Calls Try.prog 110 #[.slice A0 l.length c0, .int .u64 id, .func (.func 37) #[] #[]] w fun e w' => ∃ v : Value, e = .returned (.tuple #[v, .int .i64 er]) ∧ Own25 w' w.heap.size v r ∧ Below w.heap.size w w' := by
  have HR0 := Aside0.mk hr0
  have HC0 := Aside0.mk hc0
  have HW := Aside0.mk hw
  clear hr0 hc0 hw
  have HB := Aside0.mk (Below.refl w.heap.size w)
  unfold ledger_change.g at h
  obtain ⟨⟨pi, pe⟩, h1, h_⟩ := Option.bind_eq_some_iff.mp h
  replace h := h_
  clear h_
  have HF1 := Aside0.mk h1
  clear h1
  dsimp only at h
  by_cases hpe : pe = 0
  case neg =>
    rw [if_neg hpe] at h
    have hpeb : (pe != 0) = true := bne_iff_ne.mpr hpe
    clear hpe
    injection h with h
    injection h with hh1 hh2
    subst hh1 hh2
    go_enter Try.func110, Try.ntmps110
    go_wp2_with (go_at_call 104; refine (ledger_place.calls k A0 c0 l id pi pe _ HR0.out HC0.out HF1.out).mono ?_; rintro e w1 ⟨rfl, hb⟩; clear HF1; replace HB := Aside0.mk (below_then HB.out HB.out.size hb);  clear hb)
    go_ret2
    exact ⟨_, rfl, Own25.nil _ _, HB.out⟩
  subst hpe
  rw [if_pos rfl] at h
  by_cases hpi : 0 ≤ pi ∧ pi < (l.length : Int)
  case neg => rw [if_neg hpi] at h; cases h
  rw [if_pos hpi] at h
  obtain ⟨hp0, hp1⟩ := hpi
  obtain ⟨i, rfl⟩ := Int.eq_ofNat_of_zero_le hp0
  have hi : i < l.length := by omega
  obtain ⟨ad, A5, c5, ea, hx0, hx1, hx2, hx3, hx4, hx5, hx6, hl5, hi5⟩ := at_T25 HR0.out (i : Int) (by omega) (by omega)
  subst ea
  obtain ⟨c, hc⟩ : ∃ c, c = rd_T25 l (i : Int) := ⟨_, rfl⟩
  rw [← hc] at h
  simp only [← hc, Int.toNat_natCast] at hx0 hx1 hx2 hx3 hx4 hx5 hx6 hl5 hi5
  have HL5 := Aside0.mk hl5
  have HI5 := Aside0.mk hi5
  clear hl5 hi5 hc
  obtain ⟨⟨c2, e2⟩, h1, h_⟩ := Option.bind_eq_some_iff.mp h
  replace h := h_
  clear h_
  have HF2 := Aside0.mk h1
  clear h1
  dsimp only at h
  by_cases he2 : e2 = 0
  case neg =>
    rw [if_neg he2] at h
    have he2b : (e2 != 0) = true := bne_iff_ne.mpr he2
    clear he2
    injection h with h
    injection h with hh1 hh2
    subst hh1 hh2
    go_enter Try.func110, Try.ntmps110
    go_wp2_with (first | (go_at_call 104; refine (ledger_place.calls k (some ad) c0 l id (i : Int) 0 _ HR0.out HC0.out HF1.out).mono ?_; rintro e w1 ⟨rfl, hb⟩; clear HF1; replace HB := Aside0.mk (below_then HB.out HB.out.size hb); replace hx0 := (hb.cell (World.block_lt_of_cell? w _ hx0)).trans hx0; replace hx1 := (hb.cell (World.block_lt_of_cell? w _ hx1)).trans hx1; replace hx2 := (hb.cell (World.block_lt_of_cell? w _ hx2)).trans hx2; replace hx3 := (hb.cell (World.block_lt_of_cell? w _ hx3)).trans hx3; replace hx4 := (hb.cell (World.block_lt_of_cell? w _ hx4)).trans hx4; replace hx5 := (hb.cell (World.block_lt_of_cell? w _ hx5)).trans hx5; replace hx6 := (hb.cell (World.block_lt_of_cell? w _ hx6)).trans hx6;  clear hb) | (go_at_call 37; refine (HW.out c A5 c5 c2 e2 _ HB.out (Kd.C_below HI5.out HB.out) HL5.out HF2.out).mono ?_; rintro e w2 ⟨A6, c6, rfl, ho, hb⟩; clear HF2; have HO := Aside0.mk (fun q_ => (ho q_).mono HB.out.size); replace HB := Aside0.mk (below_then HB.out HB.out.size hb); clear ho hb hx0 hx1 hx2 hx3 hx4 hx5 hx6))
    go_ret2
    exact ⟨_, rfl, Own25.nil _ _, HB.out.alloc HB.out.size _⟩
  subst he2
  rw [if_pos rfl] at h
  obtain ⟨m, h1, h_⟩ := Option.bind_eq_some_iff.mp h
  replace h := h_
  clear h_
  have HF3 := Aside0.mk h1
  clear h1
  have hm : m = l := owns_eq HF3.out
  subst hm
  injection h with h
  injection h with hh1 hh2
  subst hh1 hh2
  rw [Int.toNat_natCast]
  obtain ⟨x, hx⟩ : ∃ x, m[i]? = some x := ⟨_, List.getElem?_eq_getElem hi⟩
  have HX := Aside0.mk hx
  have HI := Aside0.mk hi
  clear hx hi
  go_enter Try.func110, Try.ntmps110
  go_wp2_with (first | (go_at_call 104; refine (ledger_place.calls k (some ad) c0 m id (i : Int) 0 _ HR0.out HC0.out HF1.out).mono ?_; rintro e w1 ⟨rfl, hb⟩; clear HF1; replace HB := Aside0.mk (below_then HB.out HB.out.size hb); replace hx0 := (hb.cell (World.block_lt_of_cell? w _ hx0)).trans hx0; replace hx1 := (hb.cell (World.block_lt_of_cell? w _ hx1)).trans hx1; replace hx2 := (hb.cell (World.block_lt_of_cell? w _ hx2)).trans hx2; replace hx3 := (hb.cell (World.block_lt_of_cell? w _ hx3)).trans hx3; replace hx4 := (hb.cell (World.block_lt_of_cell? w _ hx4)).trans hx4; replace hx5 := (hb.cell (World.block_lt_of_cell? w _ hx5)).trans hx5; replace hx6 := (hb.cell (World.block_lt_of_cell? w _ hx6)).trans hx6;  clear hb) | (go_at_call 37; refine (HW.out c A5 c5 c2 0 _ HB.out (Kd.C_below HI5.out HB.out) HL5.out HF2.out).mono ?_; rintro e w2 ⟨A6, c6, rfl, ho, hb⟩; clear HF2; have HO := Aside0.mk (fun q_ => (ho q_).mono HB.out.size); replace HB := Aside0.mk (below_then HB.out HB.out.size hb); clear ho hb hx0 hx1 hx2 hx3 hx4 hx5 hx6) | (go_at_call 102; go_loud (have hal := (Below.refl w2.heap.size w2).alloc (Nat.le_refl _) (.cells #[.int .u64 c2.f0, .int .u64 c2.f1, .int .u64 c2.f2, .int .u64 c2.f3, .int .u64 c2.f4, .slice A6 c2.f5.length c6, .bool c2.f6] 25); have HBL := Aside0.mk (HB.out.alloc HB.out.size (.cells #[.int .u64 c2.f0, .int .u64 c2.f1, .int .u64 c2.f2, .int .u64 c2.f3, .int .u64 c2.f4, .slice A6 c2.f5.length c6, .bool c2.f6] 25)); have HK := Aside0.mk (blk_new w2 (.cells #[.int .u64 c2.f0, .int .u64 c2.f1, .int .u64 c2.f2, .int .u64 c2.f3, .int .u64 c2.f4, .slice A6 c2.f5.length c6, .bool c2.f6] 25)); refine (ledger_owns.calls (some ad) c0 m m _ (Kd.C_below HR0.out HBL.out) HC0.out HF3.out).mono ?_; rintro e w3 ⟨v, rfl, ho, hb⟩; clear HF3; have HB3 := Aside0.mk (below_then HBL.out HBL.out.size hb); replace HK := Aside0.mk (blk_below HK.out hb); have HCH := Aside0.mk (((HO.out trivial).below hal).below hb); obtain ⟨rows, hR, hrl, hrx⟩ := ho; have HVB := Aside0.mk (fun k_ (hk : v.ownBlock = some k_) => Nat.lt_of_lt_of_le (show w2.heap.size < (w2.alloc (.cells #[.int .u64 c2.f0, .int .u64 c2.f1, .int .u64 c2.f2, .int .u64 c2.f3, .int .u64 c2.f4, .slice A6 c2.f5.length c6, .bool c2.f6] 25)).heap.size by simp) (Kd.R_base hR k_ hk)); have HR := Aside0.mk (Kd.R_lower hR HBL.out.size); have HRL := Aside0.mk hrl; have HRX : Aside0 (Rows25 w3 w.heap.size m rows) := ⟨fun j x hj => by obtain ⟨cs, q1, q2⟩ := hrx j x hj; exact ⟨cs, q1, q2.mono HBL.out.size⟩⟩; obtain ⟨g, cap, hv, hbg, hgl, cur, hblk⟩ := Kd.R_form HR.out (by have := HRL.out; have := HI.out; omega); subst hv; obtain ⟨cs, q1, q2⟩ := HRX.out i x HX.out; obtain ⟨A7, c7, hcs, _⟩ := q2; have hCr := (Kd.R_reads' HR.out).2.2; obtain ⟨ad2, ea2, hcell⟩ := hCr.2.2 (by have := HRL.out; have := HI.out; omega); injection ea2 with ea2; subst ea2; obtain ⟨c', r1, r2, r3⟩ := hcell i cs q1; have e1 : c' = cs := r2.1; subst e1; have HCC : Aside0 (∀ j u, c'[j]? = some u → w3.cell? ⟨g, i * 7 + j, none⟩ = some u) := ⟨fun j u hj => by have := r3 j u hj; rw [add_plain] at this; exact this⟩; subst hcs; rw [HRL.out]; have HGL := Aside0.mk hgl; have HBK := Aside0.mk hblk; obtain ⟨hz0, hz1, hz2, hz3, hz4, hz5, hz6, hz7, hz8, hz9, hz10, hz11, hz12, hz13⟩ := cz7_ HK.out; clear hal HB HBL hb hR hrl hrx hbg hgl hblk q1 hCr hcell r1 r2 r3 HO)) | ((with_reducible refine gate_ (.store 25 (.tmp 37) (.tmp 36)) rfl ?_); refine Kd.R_store (Kd.raw 7) (w0 := w) w.heap.size rfl rfl 25 (.tmp 37) (.tmp 36) rfl 25 (i : Int) 0 rows [.int .u64 c2.f0, .int .u64 c2.f1, .int .u64 c2.f2, .int .u64 c2.f3, .int .u64 c2.f4, .slice A6 c2.f5.length c6, .bool c2.f6] (.agg #[.int .u64 c2.f0, .int .u64 c2.f1, .int .u64 c2.f2, .int .u64 c2.f3, .int .u64 c2.f4, .slice A6 c2.f5.length c6, .bool c2.f6]) [.int .u64 c2.f0, .int .u64 c2.f1, .int .u64 c2.f2, .int .u64 c2.f3, .int .u64 c2.f4, .slice A6 c2.f5.length c6, .bool c2.f6] [.int .u64 x.f0, .int .u64 x.f1, .int .u64 x.f2, .int .u64 x.f3, .int .u64 x.f4, .slice A7 x.f5.length c7, .bool x.f6] (fun _ => True) (fun _ => False) rfl (by rw [Int.toNat_natCast]; rfl) rfl rfl (by kernel_rfl) (by intro q hq; simp at hq; rcases hq with rfl | rfl | rfl | rfl | rfl | rfl | rfl <;> rfl) HR.out (by omega) (by have := HRL.out; have := HI.out; omega) rfl (fun j u hj => by rw [Int.toNat_natCast]; exact HCC.out j u hj) (Nat.le_refl _) ⟨rfl, rfl, (by intro q hq; simp at hq; rcases hq with rfl | rfl | rfl | rfl | rfl | rfl | rfl <;> rfl)⟩ (fun _ hk => hk.elim) HB3.out ?_; intro w4 ho3 hb3 hg3; rw [Int.toNat_natCast, HRL.out] at ho3; have HR3 := Aside0.mk ho3; have HB4 := Aside0.mk hb3; have HH3 := Aside0.mk (Rows25.set (i := i) HRX.out HCH.out hg3 HBK.out); clear ho3 hb3 hg3))
  go_ret2
  exact ⟨_, rfl, ⟨_, HR3.out, by rw [List.length_set, List.length_set]; exact HRL.out, HH3.out⟩, HB4.out⟩
theorem ledger_change.mono_g (l : List S25) (id : Int) (h1 h2 : S25 → Option (S25 × Int)) (hm : ∀ c, LeO (h1 c) (h2 c)) (k : Nat) : LeO (ledger_change.g k l id h1) (ledger_change.g (k + 1) l id h2) := by
  unfold ledger_change.g
  repeat' first
    | (with_reducible exact LeO.refl _)
    | exact hm _
    | apply ledger_place.mono
    | (with_reducible refine LeO.ite ?_ ?_)
    | (with_reducible refine LeO.bind ?_ (fun _ => ?_))

/-! ### ledger_Hold: function 57 (by hand) -/
def ledger_Hold.how (k : Nat) (l : List S25) (hold n : Int) (c : S25) : Option (S25 × Int) := (ledger_Where.f k l hold).bind fun q => if q.2 = 0 then some (c, 6) else (channel_Hold.f k c.f0 c.f1 c.f2 c.f3 c.f4 c.f5 c.f6 hold n).bind fun r => some (⟨r.1, r.2.1, r.2.2.1, r.2.2.2.1, r.2.2.2.2.1, r.2.2.2.2.2.1, r.2.2.2.2.2.2.1⟩, r.2.2.2.2.2.2.2)
set_option maxHeartbeats 16000000 in
set_option maxRecDepth 100000 in
theorem ledger_Hold.hows (k : Nat) (A0 : Option Addr) (c0 : Nat) (l : List S25) (hold n : Int) (b1 b2 b3 : Nat) (w : World) (hr0 : Kd.C k25 w A0 l.length l) (hc0 : l.length ≤ c0) (hb1 : w.cell? ⟨b1, 0, none⟩ = some (.slice A0 l.length c0)) (hb2 : w.cell? ⟨b2, 0, none⟩ = some (.int .u64 hold)) (hb3 : w.cell? ⟨b3, 0, none⟩ = some (.int .u64 n)) :
    HowAt w 111 [.pointer (some ⟨b1, 0, none⟩), .pointer (some ⟨b2, 0, none⟩), .pointer (some ⟨b3, 0, none⟩)] (ledger_Hold.how k l hold n) := by
  intro c A1 c1 c2 e2 w1 hb hC hl h
  have HR0 := Aside0.mk (Kd.C_below hr0 hb)
  have HC0 := Aside0.mk hc0
  have HI5 := Aside0.mk hC
  have HL5 := Aside0.mk hl
  replace hb1 := (hb.cell (World.block_lt_of_cell? w _ hb1)).trans hb1
  replace hb2 := (hb.cell (World.block_lt_of_cell? w _ hb2)).trans hb2
  replace hb3 := (hb.cell (World.block_lt_of_cell? w _ hb3)).trans hb3
  have hlt1 : b1 < w1.heap.size := World.block_lt_of_cell? w1 _ hb1
  have hlt2 : b2 < w1.heap.size := World.block_lt_of_cell? w1 _ hb2
  have hlt3 : b3 < w1.heap.size := World.block_lt_of_cell? w1 _ hb3
  clear hr0 hc0 hC hl hb
  unfold ledger_Hold.how at h
  obtain ⟨⟨q1, q2⟩, h1, h_⟩ := Option.bind_eq_some_iff.mp h
  replace h := h_
  clear h_
  have HF1 := Aside0.mk h1
  clear h1
  dsimp only at h
  show Calls Try.prog 111 #[.agg #[.int .u64 c.f0, .int .u64 c.f1, .int .u64 c.f2, .int .u64 c.f3, .int .u64 c.f4, .slice A1 c.f5.length c1, .bool c.f6], .pointer (some ⟨b1, 0, none⟩), .pointer (some ⟨b2, 0, none⟩), .pointer (some ⟨b3, 0, none⟩)] w1 _
  by_cases hq : q2 = 0
  · subst hq
    rw [if_pos rfl] at h
    injection h with h
    injection h with hh1 hh2
    subst hh1 hh2
    go_enter Try.func111, Try.ntmps111
    go_wp2_with (go_at_call 50; have hal := (Below.refl w1.heap.size w1).alloc (Nat.le_refl _) (.cells #[.int .u64 c.f0, .int .u64 c.f1, .int .u64 c.f2, .int .u64 c.f3, .int .u64 c.f4, .slice A1 c.f5.length c1, .bool c.f6] 25); have hal2 := below_then hal (show w1.heap.size ≤ (w1.alloc (.cells #[.int .u64 c.f0, .int .u64 c.f1, .int .u64 c.f2, .int .u64 c.f3, .int .u64 c.f4, .slice A1 c.f5.length c1, .bool c.f6] 25)).heap.size by simp) ((Below.refl (w1.alloc (.cells #[.int .u64 c.f0, .int .u64 c.f1, .int .u64 c.f2, .int .u64 c.f3, .int .u64 c.f4, .slice A1 c.f5.length c1, .bool c.f6] 25)).heap.size (w1.alloc (.cells #[.int .u64 c.f0, .int .u64 c.f1, .int .u64 c.f2, .int .u64 c.f3, .int .u64 c.f4, .slice A1 c.f5.length c1, .bool c.f6] 25))).alloc (Nat.le_refl _) (.cells #[.int .u64 0, .int .u64 0, .int .u64 0, .int .u64 0, .int .u64 0, .slice none 0 0, .bool false] 25)); have HB := Aside0.mk hal2; have HK := Aside0.mk (blk_below (blk_new w1 (.cells #[.int .u64 c.f0, .int .u64 c.f1, .int .u64 c.f2, .int .u64 c.f3, .int .u64 c.f4, .slice A1 c.f5.length c1, .bool c.f6] 25)) ((Below.refl (w1.alloc (.cells #[.int .u64 c.f0, .int .u64 c.f1, .int .u64 c.f2, .int .u64 c.f3, .int .u64 c.f4, .slice A1 c.f5.length c1, .bool c.f6] 25)).heap.size (w1.alloc (.cells #[.int .u64 c.f0, .int .u64 c.f1, .int .u64 c.f2, .int .u64 c.f3, .int .u64 c.f4, .slice A1 c.f5.length c1, .bool c.f6] 25))).alloc (Nat.le_refl _) (.cells #[.int .u64 0, .int .u64 0, .int .u64 0, .int .u64 0, .int .u64 0, .slice none 0 0, .bool false] 25))); have HK5 := Aside0.mk (blk_new2 w1 (.cells #[.int .u64 c.f0, .int .u64 c.f1, .int .u64 c.f2, .int .u64 c.f3, .int .u64 c.f4, .slice A1 c.f5.length c1, .bool c.f6] 25) (.cells #[.int .u64 0, .int .u64 0, .int .u64 0, .int .u64 0, .int .u64 0, .slice none 0 0, .bool false] 25)); refine (ledger_Where.calls k A0 c0 l hold q1 0 _ (Kd.C_below HR0.out HB.out) HC0.out HF1.out).mono ?_; rintro e w2 ⟨rfl, hb⟩; clear HF1; replace HB := Aside0.mk (below_then HB.out HB.out.size hb); replace HK := Aside0.mk (blk_below HK.out hb); replace HK5 := Aside0.mk (blk_below HK5.out hb); replace hb2 := (HB.out.cell hlt2).trans hb2; replace hb3 := (HB.out.cell hlt3).trans hb3; obtain ⟨hz0, hz1, hz2, hz3, hz4, hz5, hz6, hz7, hz8, hz9, hz10, hz11, hz12, hz13⟩ := cz7_ HK.out; obtain ⟨hy0, hy1, hy2, hy3, hy4, hy5, hy6, hy7, hy8, hy9, hy10, hy11, hy12, hy13⟩ := cz7_ HK5.out; clear hal hal2 hb)
    refine bodyPost_ret (results_ct rfl _ _ (w1.heap.size + 1) 25 #[.int .u64 c.f0, .int .u64 c.f1, .int .u64 c.f2, .int .u64 c.f3, .int .u64 c.f4, .slice A1 c.f5.length c1, .bool c.f6] (0, 0) _ rfl (put7_self (w := w2) (c := c) (v := .slice A1 c.f5.length c1) HK5.out) Try.underlying25 rfl (by kernel_rfl)) rfl ?_
    exact ⟨_, _, rfl, fun h => absurd h (by decide), put7_below (c := c) (v := .slice A1 c.f5.length c1) HB.out (Nat.le_succ _)⟩
  · rw [if_neg hq] at h
    have hqb : (q2 == 0) = false := beq_eq_false_iff_ne.mpr hq
    clear hq
    obtain ⟨⟨r1, r2, r3, r4, r5, r6, r7, r8⟩, h1, h_⟩ := Option.bind_eq_some_iff.mp h
    replace h := h_
    clear h_
    have HF2 := Aside0.mk h1
    clear h1
    injection h with h
    injection h with hh1 hh2
    dsimp only at hh1 hh2
    subst hh1 hh2
    go_enter Try.func111, Try.ntmps111
    go_wp2_with (first | (go_at_call 50; have hal := (Below.refl w1.heap.size w1).alloc (Nat.le_refl _) (.cells #[.int .u64 c.f0, .int .u64 c.f1, .int .u64 c.f2, .int .u64 c.f3, .int .u64 c.f4, .slice A1 c.f5.length c1, .bool c.f6] 25); have hal2 := below_then hal (show w1.heap.size ≤ (w1.alloc (.cells #[.int .u64 c.f0, .int .u64 c.f1, .int .u64 c.f2, .int .u64 c.f3, .int .u64 c.f4, .slice A1 c.f5.length c1, .bool c.f6] 25)).heap.size by simp) ((Below.refl (w1.alloc (.cells #[.int .u64 c.f0, .int .u64 c.f1, .int .u64 c.f2, .int .u64 c.f3, .int .u64 c.f4, .slice A1 c.f5.length c1, .bool c.f6] 25)).heap.size (w1.alloc (.cells #[.int .u64 c.f0, .int .u64 c.f1, .int .u64 c.f2, .int .u64 c.f3, .int .u64 c.f4, .slice A1 c.f5.length c1, .bool c.f6] 25))).alloc (Nat.le_refl _) (.cells #[.int .u64 0, .int .u64 0, .int .u64 0, .int .u64 0, .int .u64 0, .slice none 0 0, .bool false] 25)); have HB := Aside0.mk hal2; have HK := Aside0.mk (blk_below (blk_new w1 (.cells #[.int .u64 c.f0, .int .u64 c.f1, .int .u64 c.f2, .int .u64 c.f3, .int .u64 c.f4, .slice A1 c.f5.length c1, .bool c.f6] 25)) ((Below.refl (w1.alloc (.cells #[.int .u64 c.f0, .int .u64 c.f1, .int .u64 c.f2, .int .u64 c.f3, .int .u64 c.f4, .slice A1 c.f5.length c1, .bool c.f6] 25)).heap.size (w1.alloc (.cells #[.int .u64 c.f0, .int .u64 c.f1, .int .u64 c.f2, .int .u64 c.f3, .int .u64 c.f4, .slice A1 c.f5.length c1, .bool c.f6] 25))).alloc (Nat.le_refl _) (.cells #[.int .u64 0, .int .u64 0, .int .u64 0, .int .u64 0, .int .u64 0, .slice none 0 0, .bool false] 25))); have HK5 := Aside0.mk (blk_new2 w1 (.cells #[.int .u64 c.f0, .int .u64 c.f1, .int .u64 c.f2, .int .u64 c.f3, .int .u64 c.f4, .slice A1 c.f5.length c1, .bool c.f6] 25) (.cells #[.int .u64 0, .int .u64 0, .int .u64 0, .int .u64 0, .int .u64 0, .slice none 0 0, .bool false] 25)); refine (ledger_Where.calls k A0 c0 l hold q1 q2 _ (Kd.C_below HR0.out HB.out) HC0.out HF1.out).mono ?_; rintro e w2 ⟨rfl, hb⟩; clear HF1; replace HB := Aside0.mk (below_then HB.out HB.out.size hb); replace HK := Aside0.mk (blk_below HK.out hb); replace HK5 := Aside0.mk (blk_below HK5.out hb); replace hb2 := (HB.out.cell hlt2).trans hb2; replace hb3 := (HB.out.cell hlt3).trans hb3; obtain ⟨hz0, hz1, hz2, hz3, hz4, hz5, hz6, hz7, hz8, hz9, hz10, hz11, hz12, hz13⟩ := cz7_ HK.out; obtain ⟨hy0, hy1, hy2, hy3, hy4, hy5, hy6, hy7, hy8, hy9, hy10, hy11, hy12, hy13⟩ := cz7_ HK5.out; clear hal hal2 hb) | (go_at_call 23; refine (channel_Hold.calls k c.f0 c.f1 c.f2 c.f3 c.f4 A1 c1 c.f5 c.f6 hold n r1 r2 r3 r4 r5 r6 r7 r8 _ (Kd.C_below HI5.out HB.out) HL5.out HF2.out).mono ?_; rintro e w3 ⟨v5, rfl, ho, hb⟩; clear HF2; obtain ⟨An, cn, hv⟩ := Kd.R_slice ho; subst hv; have HR := Aside0.mk (Kd.R_bound ho); have HS := Aside0.mk (blk_lt HK5.out); clear hz0 hz1 hz2 hz3 hz4 hz5 hz6 hz7 hz8 hz9 hz10 hz11 hz12 hz13 hy0 hy1 hy2 hy3 hy4 hy5 hy6 hy7 hy8 hy9 hy10 hy11 hy12 hy13; replace HB := Aside0.mk (below_then HB.out HB.out.size hb); replace HK := Aside0.mk (blk_below HK.out hb); replace HK5 := Aside0.mk (blk_below HK5.out hb); obtain ⟨hz0, hz1, hz2, hz3, hz4, hz5, hz6, hz7, hz8, hz9, hz10, hz11, hz12, hz13⟩ := cz7_ HK.out; obtain ⟨hy0, hy1, hy2, hy3, hy4, hy5, hy6, hy7, hy8, hy9, hy10, hy11, hy12, hy13⟩ := cz7_ HK5.out; clear ho hb))
    have hR7 := put7_R (w := w3) (g := w1.heap.size + 1) (c := (⟨r1, r2, r3, r4, r5, r6, r7⟩ : S25)) (v := .slice An r6.length cn) HR.out (fun k_ hk => by have := HS.out; omega)
    refine bodyPost_ret (results_ct rfl _ _ (w1.heap.size + 1) 25 #[.int .u64 r1, .int .u64 r2, .int .u64 r3, .int .u64 r4, .int .u64 r5, .slice An r6.length cn, .bool r7] (0, 0) _ rfl (put7_self (w := w3) (c := (⟨r1, r2, r3, r4, r5, r6, r7⟩ : S25)) (v := .slice An r6.length cn) HK5.out) Try.underlying25 rfl (by kernel_rfl)) rfl ?_
    exact ⟨_, _, rfl, fun _ => ⟨An, cn, rfl, (Kd.R_reads' hR7).2.1, (Kd.R_reads' hR7).2.2, row44_of_R hR7 (by have := HS.out; omega)⟩, put7_below (c := (⟨r1, r2, r3, r4, r5, r6, r7⟩ : S25)) (v := .slice An r6.length cn) HB.out (Nat.le_succ _)⟩
/-- Three boxes at once. -/
theorem boxes3 (w : World) (v1 v2 v3 : Value) (t1 t2 t3 : TypeId) : Below w.heap.size w (((w.alloc (.cells #[v1] t1)).alloc (.cells #[v2] t2)).alloc (.cells #[v3] t3)) ∧
    (((w.alloc (.cells #[v1] t1)).alloc (.cells #[v2] t2)).alloc (.cells #[v3] t3)).cell? ⟨w.heap.size, 0, none⟩ = some v1 ∧
    (((w.alloc (.cells #[v1] t1)).alloc (.cells #[v2] t2)).alloc (.cells #[v3] t3)).cell? ⟨w.heap.size + 1, 0, none⟩ = some v2 ∧
    (((w.alloc (.cells #[v1] t1)).alloc (.cells #[v2] t2)).alloc (.cells #[v3] t3)).cell? ⟨w.heap.size + 2, 0, none⟩ = some v3 := by
  have b1 := (Below.refl w.heap.size w).alloc (Nat.le_refl _) (.cells #[v1] t1)
  have b2 := b1.alloc b1.size (.cells #[v2] t2)
  have b3 := b2.alloc b2.size (.cells #[v3] t3)
  have s1 : (w.alloc (.cells #[v1] t1)).heap.size = w.heap.size + 1 := by simp
  have s2 : ((w.alloc (.cells #[v1] t1)).alloc (.cells #[v2] t2)).heap.size = w.heap.size + 2 := by simp
  have k1 := blk_new w (.cells #[v1] t1)
  have k1' := blk_below k1 ((Below.refl _ (w.alloc (.cells #[v1] t1))).alloc (Nat.le_refl _) (.cells #[v2] t2))
  have c2 := (Below.refl _ ((w.alloc (.cells #[v1] t1)).alloc (.cells #[v2] t2))).alloc (Nat.le_refl _) (.cells #[v3] t3)
  have k1'' := blk_below k1' c2
  have k2 := blk_new2 w (.cells #[v1] t1) (.cells #[v2] t2)
  have k2' := blk_below k2 c2
  have k3 := blk_new ((w.alloc (.cells #[v1] t1)).alloc (.cells #[v2] t2)) (.cells #[v3] t3)
  rw [s2] at k3
  exact ⟨b3, (blk_cell k1'' 0).trans rfl, (blk_cell k2' 0).trans rfl, (blk_cell k3 0).trans rfl⟩
def ledger_Hold.g (k : Nat) (l : List S25) (id hold n : Int) : Option (List S25 × Int) := ledger_change.g k l id (ledger_Hold.how k l hold n)
set_option maxHeartbeats 16000000 in
set_option maxRecDepth 100000 in
theorem ledger_Hold.callsS (k : Nat) (A0 : Option Addr) (c0 : Nat) (l : List S25) (id hold n : Int) (r : List S25) (er : Int) (w : World) (hr0 : Kd.C k25 w A0 l.length l) (hc0 : l.length ≤ c0) (h : ledger_Hold.g k l id hold n = some (r, er)) :
    Calls Try.prog 57 #[.slice A0 l.length c0, .int .u64 id, .int .u64 hold, .int .u64 n] w fun e w' => ∃ v : Value, e = .returned (.tuple #[v, .int .i64 er]) ∧ Own25 w' w.heap.size v r ∧ Below w.heap.size w w' := by
  have HF := Aside0.mk h
  have HR0 := Aside0.mk hr0
  have HC0 := Aside0.mk hc0
  have HX := Aside0.mk (boxes3 w (.slice A0 l.length c0) (.int .u64 hold) (.int .u64 n) 47 22 22)
  clear hr0 hc0 h
  go_enter Try.func57, Try.ntmps57
  go_wp2_with (go_at_call 110; go_loud (refine (ledger_change.callsS_111 k A0 c0 l id (.pointer (some ⟨w.heap.size, 0, none⟩)) (.pointer (some ⟨w.heap.size + 1, 0, none⟩)) (.pointer (some ⟨w.heap.size + 2, 0, none⟩)) (ledger_Hold.how k l hold n) r er _ (Kd.C_below HR0.out HX.out.1) HC0.out (ledger_Hold.hows k A0 c0 l hold n w.heap.size (w.heap.size + 1) (w.heap.size + 2) _ (Kd.C_below HR0.out HX.out.1) HC0.out HX.out.2.1 HX.out.2.2.1 HX.out.2.2.2) HF.out).mono ?_; rintro e w1 ⟨v, rfl, ho, hb⟩; have HB := Aside0.mk (below_then HX.out.1 HX.out.1.size hb); have HO := Aside0.mk (ho.lower HX.out.1.size); clear HX ho hb))
  go_ret2
  exact ⟨_, rfl, HO.out, HB.out⟩
theorem ledger_Hold.mono_how (l : List S25) (hold n : Int) (c : S25) (k : Nat) : LeO (ledger_Hold.how k l hold n c) (ledger_Hold.how (k + 1) l hold n c) := by
  unfold ledger_Hold.how
  repeat' first
    | (with_reducible exact LeO.refl _)
    | apply ledger_Where.mono
    | apply channel_Hold.mono
    | (with_reducible refine LeO.ite ?_ ?_)
    | (with_reducible refine LeO.bind ?_ (fun _ => ?_))
theorem ledger_Hold.mono_g (l : List S25) (id hold n : Int) (k : Nat) : LeO (ledger_Hold.g k l id hold n) (ledger_Hold.g (k + 1) l id hold n) := ledger_change.mono_g l id _ _ (fun c => ledger_Hold.mono_how l hold n c k) k

/-! ### damsonlaw10_live: function 44 (by hand) -/
theorem nil25 (w : World) : Kd.C k25 w none 0 [] := Kd.C_nil k25 w
theorem nil44 (w : World) : Kd.C k44 w none 0 [] := Kd.C_nil k44 w
def damsonlaw10_live.f (k : Nat) : Option Bool := (ledger_Open.g k [] (⟨1, 10, 0, 0, 10, [], true⟩ : S25)).bind fun p1 => if p1.2 = 0 then (ledger_Open.g k p1.1 (⟨2, 10, 0, 0, 10, [], true⟩ : S25)).bind fun p2 => if p2.2 = 0 then (ledger_Hold.g k p2.1 1 7 3).bind fun p3 => if p3.2 = 0 then (ledger_Hold.g k p3.1 2 7 3).bind fun p4 => if p4.2 = 6 then some true else none else none else none else none
set_option maxHeartbeats 16000000 in
set_option maxRecDepth 100000 in
theorem damsonlaw10_live.calls (k : Nat) (r : Bool) (w : World) (h : damsonlaw10_live.f k = some r) :
    Calls Try.prog 44 #[] w fun e w' => e = .returned (.bool r) ∧ Below w.heap.size w w' := by
  unfold damsonlaw10_live.f at h
  obtain ⟨⟨l1, e1⟩, h1, h_⟩ := Option.bind_eq_some_iff.mp h
  replace h := h_
  clear h_
  have HF1 := Aside0.mk h1
  clear h1
  try dsimp only at h
  by_cases he : e1 = 0
  case neg => rw [if_neg he] at h; cases h
  subst he
  rw [if_pos rfl] at h
  try dsimp only at h
  obtain ⟨⟨l2, e2⟩, h1, h_⟩ := Option.bind_eq_some_iff.mp h
  replace h := h_
  clear h_
  have HF2 := Aside0.mk h1
  clear h1
  try dsimp only at h
  by_cases he : e2 = 0
  case neg => rw [if_neg he] at h; cases h
  subst he
  rw [if_pos rfl] at h
  try dsimp only at h
  obtain ⟨⟨l3, e3⟩, h1, h_⟩ := Option.bind_eq_some_iff.mp h
  replace h := h_
  clear h_
  have HF3 := Aside0.mk h1
  clear h1
  try dsimp only at h
  by_cases he : e3 = 0
  case neg => rw [if_neg he] at h; cases h
  subst he
  rw [if_pos rfl] at h
  try dsimp only at h
  obtain ⟨⟨l4, e4⟩, h1, h_⟩ := Option.bind_eq_some_iff.mp h
  replace h := h_
  clear h_
  have HF4 := Aside0.mk h1
  clear h1
  try dsimp only at h
  by_cases he : e4 = 6
  case neg => rw [if_neg he] at h; cases h
  subst he
  rw [if_pos rfl] at h
  try dsimp only at h
  injection h with h
  subst h
  go_enter Try.func44, Try.ntmps44
  go_wp2_with (first | (go_at_call 46; refine (ledger_Open.callsS k none 0 [] (⟨1, 10, 0, 0, 10, [], true⟩ : S25) none 0 l1 0 _ (nil25 _) (Nat.le_refl _) (nil44 _) (Nat.le_refl _) HF1.out).mono ?_; rintro e w1 ⟨v, rfl, ho, hb⟩; clear HF1; have HB := Aside0.mk hb; obtain ⟨A1, c1, hv, hc, hC⟩ := ho.reads; subst hv; have HC1 := Aside0.mk hc; have HR1 := Aside0.mk hC; clear ho hb hc hC) | (go_at_call 46; refine (ledger_Open.callsS k A1 c1 l1 (⟨2, 10, 0, 0, 10, [], true⟩ : S25) none 0 l2 0 _ HR1.out HC1.out (nil44 _) (Nat.le_refl _) HF2.out).mono ?_; rintro e w2 ⟨v, rfl, ho, hb⟩; clear HF2; replace HB := Aside0.mk (below_then HB.out HB.out.size hb); obtain ⟨A2, c2, hv, hc, hC⟩ := ho.reads; subst hv; have HC2 := Aside0.mk hc; have HR2 := Aside0.mk hC; clear ho hb hc hC) | (go_at_call 57; refine (ledger_Hold.callsS k A2 c2 l2 1 7 3 l3 0 _ HR2.out HC2.out HF3.out).mono ?_; rintro e w3 ⟨v, rfl, ho, hb⟩; clear HF3; replace HB := Aside0.mk (below_then HB.out HB.out.size hb); obtain ⟨A3, c3, hv, hc, hC⟩ := ho.reads; subst hv; have HC3 := Aside0.mk hc; have HR3 := Aside0.mk hC; clear ho hb hc hC) | (go_at_call 57; refine (ledger_Hold.callsS k A3 c3 l3 2 7 3 l4 6 _ HR3.out HC3.out HF4.out).mono ?_; rintro e w4 ⟨v, rfl, ho, hb⟩; clear HF4; replace HB := Aside0.mk (below_then HB.out HB.out.size hb); obtain ⟨A4, c4, hv, hc, hC⟩ := ho.reads; subst hv; have HC4 := Aside0.mk hc; have HR4 := Aside0.mk hC; clear ho hb hc hC))
  go_ret
  exact ⟨rfl, HB.out⟩
theorem damsonlaw10_live.mono : ∀ k, LeO (damsonlaw10_live.f k) (damsonlaw10_live.f (k + 1)) := by
  intro k
  unfold damsonlaw10_live.f
  repeat' first
    | (with_reducible exact LeO.refl _)
    | apply ledger_Open.mono_g
    | apply ledger_Hold.mono_g
    | (with_reducible refine LeO.ite ?_ ?_)
    | (with_reducible refine LeO.bind ?_ (fun _ => ?_))

/-! ### damsonref10_Few: function 45 -/
def damsonref10_Few.l0 : Nat → List (S25) → List (S25) → Int → Int → Option (Bool)
  | 0, _, _, _, _ => none
  | k + 1, x0, x5, x6, x7 => if x7 < x6 then (if 0 ≤ x7 then (if x7 < (x5.length : Int) then (if (((rd_T25 x5 x7).f5).length : Int) > 20 then (some false) else (damsonref10_Few.l0 k x0 x5 x6 (wrap64 (x7 + 1)))) else (none)) else (none)) else (some (decide ((x0.length : Int) ≤ 34)))
def damsonref10_Few.f (k : Nat) (l0 : List (S25)) : Option (Bool) := damsonref10_Few.l0 k l0 l0 (l0.length : Int) 0
theorem damsonref10_Few.mono_l : ∀ k, (∀ y0 y1 y2 y3, LeO (damsonref10_Few.l0 k y0 y1 y2 y3) (damsonref10_Few.l0 (k + 1) y0 y1 y2 y3))
  | 0 => fun _ _ _ _ r h => by simp [damsonref10_Few.l0] at h
  | k + 1 => by
    have ih0 := damsonref10_Few.mono_l k
    · intro y0 y1 y2 y3
      unfold damsonref10_Few.l0
      repeat' first
      | (with_reducible exact ih0 _ _ _ _)
      | (with_reducible exact LeO.refl _)
      | (with_reducible exact LeO.none _)
      | (with_reducible refine LeO.ite ?_ ?_)
      | (with_reducible refine LeO.bind ?_ (fun _ => ?_))
      | exact ih0 _ _ _ _
      | exact LeO.none _
      | refine LeO.ite ?_ ?_
      | refine LeO.bind ?_ (fun _ => ?_)
theorem damsonref10_Few.mono : ∀ a0 k, LeO (damsonref10_Few.f k a0) (damsonref10_Few.f (k + 1) a0) := by
  intro a0 k
  have ih0 := damsonref10_Few.mono_l k
  unfold damsonref10_Few.f
  repeat' first
      | (with_reducible exact ih0 _ _ _ _)
      | (with_reducible exact LeO.refl _)
      | (with_reducible exact LeO.none _)
      | (with_reducible refine LeO.ite ?_ ?_)
      | (with_reducible refine LeO.bind ?_ (fun _ => ?_))
      | exact ih0 _ _ _ _
      | exact LeO.none _
      | refine LeO.ite ?_ ?_
      | refine LeO.bind ?_ (fun _ => ?_)
set_option maxHeartbeats 8000000 in
set_option maxRecDepth 100000 in
theorem damsonref10_Few.calls (k : Nat) (A0 : Option Addr) (c0 : Nat) (l0 : List (S25)) (r : Bool) (w : World) (hr0 : Kd.C k25 w A0 l0.length l0) (hc0 : l0.length ≤ c0) (h : damsonref10_Few.f k l0 = some r) :
    Calls Try.prog 45 #[.slice A0 l0.length c0] w fun e w' => e = .returned (.bool r) ∧ Below w.heap.size w w' := by
  have hu25 := Try.underlying25
  have HR0 := Aside0.mk hr0
  have HC0 := Aside0.mk hc0
  clear hr0 hc0
  have HB := Aside0.mk (Below.refl w.heap.size w)
  have H : (damsonref10_Few.l0 k l0 l0 (l0.length : Int) 0) = some r := h
  clear h
  have H' := Aside0.mk H
  clear H
  go_enter Try.func45, Try.ntmps45
  go_wp2
  go_loopg [7] k (fun kq v7 w' => ∃ (x7_1 : Int), v7 = .int .i64 x7_1 ∧ Aside0 (damsonref10_Few.l0 kq l0 l0 (l0.length : Int) x7_1 = some r) ∧ Aside0 (kq ≤ k) ∧ Aside0 (Below w.heap.size w w'))
  case atStart => exact ⟨(0), (by first | rfl | (simp; done) | (simp [*]; done)), H', ⟨Nat.le_refl _⟩, ⟨by repeat (first | (with_reducible first | exact HB.out | apply below_alloc | apply pw_below_drewN | apply below_drew1) | exact HB.out)⟩⟩
  case round =>
    clear H'
    obtain ⟨x7_1, rfl, HA, HK1, HB⟩ := hrel
    cases gk with
    | zero => exact absurd HA.out (by simp [damsonref10_Few.l0])
    | succ k1 =>
      have H := HA.out
      clear HA
      simp only [damsonref10_Few.l0] at H
      by_cases c2 : x7_1 < (l0.length : Int)
      · rw [if_pos c2] at H
        have c2b0 : decide (x7_1 < (l0.length : Int)) = true := decide_eq_true c2
        clear c2
        by_cases c3 : 0 ≤ x7_1
        · rw [if_pos c3] at H
          have c3b0 : decide (0 ≤ x7_1) = true := decide_eq_true c3
          clear c3
          by_cases c4 : x7_1 < (l0.length : Int)
          · rw [if_pos c4] at H
            have c4b0 : decide (x7_1 < (l0.length : Int)) = true := decide_eq_true c4
            clear c4
            by_cases c5 : (((rd_T25 l0 x7_1).f5).length : Int) > 20
            · rw [if_pos c5] at H
              have c5b0 : decide (20 < (((rd_T25 l0 x7_1).f5).length : Int)) = true := decide_eq_true c5
              have c5b1 : decide (20 < ((rd_T25 l0 x7_1).f5).length) = true := decide_eq_true (by omega)
              clear c5
              obtain rfl := Option.some.inj H
              have p180 : 0 ≤ (x7_1 : Int) := of_decide_eq_true (by first | (with_reducible assumption) | assumption)
              have q180 : x7_1 < (l0.length : Int) := of_decide_eq_true (by first | (with_reducible assumption) | assumption)
              obtain ⟨ad180, A180_5, c180_5, e180, hx180_0, hx180_1, hx180_2, hx180_3, hx180_4, hx180_5, hx180_6, hl180_5, hi180_5⟩ := at_T25 HR0.out x7_1 p180 q180
              cases e180
              replace hx180_0 := (HB.out.cell (World.block_lt_of_cell? w _ hx180_0)).trans hx180_0
              replace hx180_1 := (HB.out.cell (World.block_lt_of_cell? w _ hx180_1)).trans hx180_1
              replace hx180_2 := (HB.out.cell (World.block_lt_of_cell? w _ hx180_2)).trans hx180_2
              replace hx180_3 := (HB.out.cell (World.block_lt_of_cell? w _ hx180_3)).trans hx180_3
              replace hx180_4 := (HB.out.cell (World.block_lt_of_cell? w _ hx180_4)).trans hx180_4
              replace hx180_5 := (HB.out.cell (World.block_lt_of_cell? w _ hx180_5)).trans hx180_5
              replace hx180_6 := (HB.out.cell (World.block_lt_of_cell? w _ hx180_6)).trans hx180_6
              have HR180_5 := Aside0.mk hi180_5
              have HC180_5 := Aside0.mk hl180_5
              clear hi180_5 hl180_5
              replace p180 := eq_true p180
              replace q180 := eq_true q180
              go_wp2_with (first | ((with_reducible refine gate_dst (N := 4) rfl ?_); refine box_event ?hg (N := 4) ?hd (cs := #[.int .u64 0, .int .u64 0, .int .u64 0, .int .u64 0, .int .u64 0, .slice none 0 0, .bool false]) (t := 25) ?hr ?_; (case hd => rfl); (case hg => rfl); (case hr => first | (go_simp; done) | (go_simp; rfl)); intro gb181 hg w6 hbox hb; have n0_ := Aside0.mk (below_step (belN HB) hb); have n1_ := Aside0.mk (hbox); have n2_ := Aside0.mk ((by rw [hg]; exact (below_size (belN HB)) : w.heap.size ≤ gb181)); have n3_ := Aside0.mk ((by rw [hg]; exact (below_size (belN HB)) : w.heap.size ≤ gb181)); clear HB; have HB := n0_; have BK181 := n1_; have GW181 := n2_; have GE181 := n3_; clear n0_ n1_ n2_ n3_; clear hb hbox hg; obtain ⟨hcz7_0, hcz7_1, hcz7_2, hcz7_3, hcz7_4, hcz7_5, hcz7_6, hfz7_0, hfz7_1, hfz7_2, hfz7_3, hfz7_4, hfz7_5, hfz7_6⟩ := cz7_ (w := w6) BK181.out))
              go_ret
              exact ⟨by first | rfl | (simp [errW_none, errW_some] <;> rfl) | (simp [*, errW_none, errW_some] <;> rfl), by repeat (first | (with_reducible first | exact HB.out | apply below_alloc | apply pw_below_drewN | apply below_drew1 | refine below_set ?_ GE181.out) | exact HB.out)⟩
            · rw [if_neg c5] at H
              have c5b0 : decide (20 < (((rd_T25 l0 x7_1).f5).length : Int)) = false := decide_eq_false c5
              have c5b1 : decide (20 < ((rd_T25 l0 x7_1).f5).length) = false := decide_eq_false (by omega)
              clear c5
              have H' := Aside0.mk H
              clear H
              have p180 : 0 ≤ (x7_1 : Int) := of_decide_eq_true (by first | (with_reducible assumption) | assumption)
              have q180 : x7_1 < (l0.length : Int) := of_decide_eq_true (by first | (with_reducible assumption) | assumption)
              obtain ⟨ad180, A180_5, c180_5, e180, hx180_0, hx180_1, hx180_2, hx180_3, hx180_4, hx180_5, hx180_6, hl180_5, hi180_5⟩ := at_T25 HR0.out x7_1 p180 q180
              cases e180
              replace hx180_0 := (HB.out.cell (World.block_lt_of_cell? w _ hx180_0)).trans hx180_0
              replace hx180_1 := (HB.out.cell (World.block_lt_of_cell? w _ hx180_1)).trans hx180_1
              replace hx180_2 := (HB.out.cell (World.block_lt_of_cell? w _ hx180_2)).trans hx180_2
              replace hx180_3 := (HB.out.cell (World.block_lt_of_cell? w _ hx180_3)).trans hx180_3
              replace hx180_4 := (HB.out.cell (World.block_lt_of_cell? w _ hx180_4)).trans hx180_4
              replace hx180_5 := (HB.out.cell (World.block_lt_of_cell? w _ hx180_5)).trans hx180_5
              replace hx180_6 := (HB.out.cell (World.block_lt_of_cell? w _ hx180_6)).trans hx180_6
              have HR180_5 := Aside0.mk hi180_5
              have HC180_5 := Aside0.mk hl180_5
              clear hi180_5 hl180_5
              replace p180 := eq_true p180
              replace q180 := eq_true q180
              go_wp2_with (first | ((with_reducible refine gate_dst (N := 4) rfl ?_); refine box_event ?hg (N := 4) ?hd (cs := #[.int .u64 0, .int .u64 0, .int .u64 0, .int .u64 0, .int .u64 0, .slice none 0 0, .bool false]) (t := 25) ?hr ?_; (case hd => rfl); (case hg => rfl); (case hr => first | (go_simp; done) | (go_simp; rfl)); intro gb181 hg w8 hbox hb; have n0_ := Aside0.mk (below_step (belN HB) hb); have n1_ := Aside0.mk (hbox); have n2_ := Aside0.mk ((by rw [hg]; exact (below_size (belN HB)) : w.heap.size ≤ gb181)); have n3_ := Aside0.mk ((by rw [hg]; exact (below_size (belN HB)) : w.heap.size ≤ gb181)); clear HB; have HB := n0_; have BK181 := n1_; have GW181 := n2_; have GE181 := n3_; clear n0_ n1_ n2_ n3_; clear hb hbox hg; obtain ⟨hcz9_0, hcz9_1, hcz9_2, hcz9_3, hcz9_4, hcz9_5, hcz9_6, hfz9_0, hfz9_1, hfz9_2, hfz9_3, hfz9_4, hfz9_5, hfz9_6⟩ := cz7_ (w := w8) BK181.out))
              go_roundg k1
              case measure => have := HK1.out; omega
              case rel => exact ⟨(wrap64 (x7_1 + 1)), (by first | rfl | (simp; done) | (simp [*]; done)), H', ⟨by have := HK1.out; omega⟩, ⟨by repeat (first | (with_reducible first | exact HB.out | apply below_alloc | apply pw_below_drewN | apply below_drew1 | refine below_set ?_ GE181.out) | exact HB.out)⟩⟩
          · rw [if_neg c4] at H
            exact absurd H (by simp)
        · rw [if_neg c3] at H
          exact absurd H (by simp)
      · rw [if_neg c2] at H
        have c2b0 : decide (x7_1 < (l0.length : Int)) = false := decide_eq_false c2
        clear c2
        obtain rfl := Option.some.inj H
        go_wp2
        go_ret
        exact ⟨by first | rfl | (simp [errW_none, errW_some] <;> rfl) | (simp [*, errW_none, errW_some] <;> rfl), by repeat (first | (with_reducible first | exact HB.out | apply below_alloc | apply pw_below_drewN | apply below_drew1) | exact HB.out)⟩

/-! ### ledger_Get: function 47 -/
def ledger_Get.f (k : Nat) (l0 : List (S25)) (a1 : Int) : Option (Int × Int × Int × Int × Int × (List (S44)) × Bool × Int) := (ledger_place.f k l0 a1).bind fun bt183 => (if bt183.2 = 0 then (if 0 ≤ bt183.1 then (if bt183.1 < (l0.length : Int) then ((ledger_own.f ((rd_T25 l0 bt183.1).f0) ((rd_T25 l0 bt183.1).f1) ((rd_T25 l0 bt183.1).f2) ((rd_T25 l0 bt183.1).f3) ((rd_T25 l0 bt183.1).f4) ((rd_T25 l0 bt183.1).f5) ((rd_T25 l0 bt183.1).f6)).bind fun bt186 => (some (bt186.1, bt186.2.1, bt186.2.2.1, bt186.2.2.2.1, bt186.2.2.2.2.1, bt186.2.2.2.2.2.1, bt186.2.2.2.2.2.2, 0))) else (none)) else (none)) else (some (0, 0, 0, 0, 0, ([] : List (S44)), false, bt183.2)))
theorem ledger_Get.mono : ∀ a0 a1 k, LeO (ledger_Get.f k a0 a1) (ledger_Get.f (k + 1) a0 a1) := by
  intro a0 a1 k
  unfold ledger_Get.f
  repeat' first
      | (with_reducible exact ledger_place.mono _ _ _)
      | (with_reducible exact LeO.refl _)
      | (with_reducible exact LeO.none _)
      | (with_reducible refine LeO.ite ?_ ?_)
      | (with_reducible refine LeO.bind ?_ (fun _ => ?_))
      | exact ledger_place.mono _ _ _
      | exact LeO.none _
      | refine LeO.ite ?_ ?_
      | refine LeO.bind ?_ (fun _ => ?_)
set_option maxHeartbeats 8000000 in
set_option maxRecDepth 100000 in
theorem ledger_Get.calls (k : Nat) (A0 : Option Addr) (c0 : Nat) (l0 : List (S25)) (a1 : Int) (r1 : Int) (r2 : Int) (r3 : Int) (r4 : Int) (r5 : Int) (r6 : List (S44)) (r7 : Bool) (r8 : Int) (w : World) (hr0 : Kd.C k25 w A0 l0.length l0) (hc0 : l0.length ≤ c0) (h : ledger_Get.f k l0 a1 = some (r1, r2, r3, r4, r5, r6, r7, r8)) :
    Calls Try.prog 47 #[.slice A0 l0.length c0, .int .u64 a1] w fun e w' => ∃ v5_ : Value, e = .returned (.tuple #[.agg #[.int .u64 r1, .int .u64 r2, .int .u64 r3, .int .u64 r4, .int .u64 r5, v5_, .bool r7], .int .i64 r8]) ∧ Kd.R k44 44 w' w.heap.size (fun _ => True) v5_ r6 ∧ Below w.heap.size w w' := by
  have hu25 := Try.underlying25
  have HR0 := Aside0.mk hr0
  have HC0 := Aside0.mk hc0
  clear hr0 hc0
  have HB := Aside0.mk (Below.refl w.heap.size w)
  have H : ((ledger_place.f k l0 a1).bind fun bt183 => (if bt183.2 = 0 then (if 0 ≤ bt183.1 then (if bt183.1 < (l0.length : Int) then ((ledger_own.f ((rd_T25 l0 bt183.1).f0) ((rd_T25 l0 bt183.1).f1) ((rd_T25 l0 bt183.1).f2) ((rd_T25 l0 bt183.1).f3) ((rd_T25 l0 bt183.1).f4) ((rd_T25 l0 bt183.1).f5) ((rd_T25 l0 bt183.1).f6)).bind fun bt186 => (some (bt186.1, bt186.2.1, bt186.2.2.1, bt186.2.2.2.1, bt186.2.2.2.2.1, bt186.2.2.2.2.2.1, bt186.2.2.2.2.2.2, 0))) else (none)) else (none)) else (some (0, 0, 0, 0, 0, ([] : List (S44)), false, bt183.2)))) = some (r1, r2, r3, r4, r5, r6, r7, r8) := h
  clear h
  replace H := Option.bind_eq_some_iff.mp H
  obtain ⟨⟨t183, t184⟩, A30, H⟩ := H
  replace H : (if t184 = 0 then (if 0 ≤ t183 then (if t183 < (l0.length : Int) then ((ledger_own.f ((rd_T25 l0 t183).f0) ((rd_T25 l0 t183).f1) ((rd_T25 l0 t183).f2) ((rd_T25 l0 t183).f3) ((rd_T25 l0 t183).f4) ((rd_T25 l0 t183).f5) ((rd_T25 l0 t183).f6)).bind fun bt186 => (some (bt186.1, bt186.2.1, bt186.2.2.1, bt186.2.2.2.1, bt186.2.2.2.2.1, bt186.2.2.2.2.2.1, bt186.2.2.2.2.2.2, 0))) else (none)) else (none)) else (some (0, 0, 0, 0, 0, ([] : List (S44)), false, t184))) = some (r1, r2, r3, r4, r5, r6, r7, r8) := H
  have A3 := Aside0.mk A30
  clear A30
  by_cases c4 : t184 = 0
  · rw [if_pos c4] at H
    have c4b0 : (t184 == 0) = true := beq_iff_eq.mpr c4
    have c4b1 : (t184 != 0) = false := bne_eq_false_iff_eq.mpr c4
    clear c4
    by_cases c5 : 0 ≤ t183
    · rw [if_pos c5] at H
      have c5b0 : decide (0 ≤ t183) = true := decide_eq_true c5
      clear c5
      by_cases c6 : t183 < (l0.length : Int)
      · rw [if_pos c6] at H
        have c6b0 : decide (t183 < (l0.length : Int)) = true := decide_eq_true c6
        clear c6
        replace H := Option.bind_eq_some_iff.mp H
        obtain ⟨⟨t186, t187, t188, t189, t190, t191, t194⟩, A70, H⟩ := H
        replace H : (some (t186, t187, t188, t189, t190, t191, t194, 0)) = some (r1, r2, r3, r4, r5, r6, r7, r8) := H
        have A7 := Aside0.mk A70
        clear A70
        simp only [Option.some.injEq, Prod.mk.injEq] at H
        obtain ⟨rfl, rfl, rfl, rfl, rfl, rfl, rfl, rfl⟩ := H
        go_enter Try.func47, Try.ntmps47
        go_wp2_with (first | ((with_reducible refine gate_dst (N := 4) rfl ?_); refine box_event ?hg (N := 4) ?hd (cs := #[.int .u64 0, .int .u64 0, .int .u64 0, .int .u64 0, .int .u64 0, .slice none 0 0, .bool false]) (t := 25) ?hr ?_; (case hd => rfl); (case hg => rfl); (case hr => first | (go_simp; done) | (go_simp; rfl)); intro gb182 hg w8 hbox hb; have n0_ := Aside0.mk (below_step (belN HB) hb); have n1_ := Aside0.mk (hbox); have n2_ := Aside0.mk ((by rw [hg]; exact (below_size (belN HB)) : w.heap.size ≤ gb182)); have n3_ := Aside0.mk ((by rw [hg]; exact (below_size (belN HB)) : w.heap.size ≤ gb182)); clear HB; have HB := n0_; have BK182 := n1_; have GW182 := n2_; have GE182 := n3_; clear n0_ n1_ n2_ n3_; clear hb hbox hg) | ((with_reducible refine gate_callee (f := 104) rfl ?_); refine goesL_ (some 11) rfl rfl Try.func104 (by kernel_rfl) rfl #[.slice A0 l0.length c0, .int .u64 a1] rfl (by (try simp only [List.map_toArray, List.map_cons, List.map_nil]); first | done | rfl | (simp only [List.length_drop, List.length_take]; rfl)) ?_; (with_reducible refine (ledger_place.calls k _ _ l0 a1 t183 t184 _ ?side1 ?side2 A3.out).mono ?_); (case side1 => repeat (first | exact (Kd.C_below HR0.out HB.out) | (with_reducible refine Kd.C_alloc ?_ _) | (with_reducible refine Kd.C_drewN ?_ _) | (with_reducible refine Kd.C_drew ?_))); (case side2 => exact HC0.out); rintro e w9 ⟨rfl, hb⟩; refine ⟨_, rfl, ?_⟩; have n0_ := Aside0.mk (blk_below (g := gb182) (blkN BK182) hb); have n1_ := Aside0.mk (below_step (belN HB) hb); clear BK182; clear HB; have BK182 := n0_; have HB := n1_; clear n0_ n1_; (try clear hb); (try clear hb2); (try clear hk); (try clear hi); have p185 : 0 ≤ (t183 : Int) := of_decide_eq_true (by first | (with_reducible assumption) | assumption); have q185 : t183 < (l0.length : Int) := of_decide_eq_true (by first | (with_reducible assumption) | assumption); obtain ⟨ad185, A185_5, c185_5, e185, hx185_0, hx185_1, hx185_2, hx185_3, hx185_4, hx185_5, hx185_6, hl185_5, hi185_5⟩ := at_T25 HR0.out t183 p185 q185; cases e185; replace hx185_0 := (HB.out.cell (World.block_lt_of_cell? w _ hx185_0)).trans hx185_0; replace hx185_1 := (HB.out.cell (World.block_lt_of_cell? w _ hx185_1)).trans hx185_1; replace hx185_2 := (HB.out.cell (World.block_lt_of_cell? w _ hx185_2)).trans hx185_2; replace hx185_3 := (HB.out.cell (World.block_lt_of_cell? w _ hx185_3)).trans hx185_3; replace hx185_4 := (HB.out.cell (World.block_lt_of_cell? w _ hx185_4)).trans hx185_4; replace hx185_5 := (HB.out.cell (World.block_lt_of_cell? w _ hx185_5)).trans hx185_5; replace hx185_6 := (HB.out.cell (World.block_lt_of_cell? w _ hx185_6)).trans hx185_6; have HR185_5 := Aside0.mk hi185_5; have HC185_5 := Aside0.mk hl185_5; clear hi185_5 hl185_5; replace p185 := eq_true p185; replace q185 := eq_true q185) | ((with_reducible refine gate_callee (f := 103) rfl ?_); refine goesL_ (some 22) rfl rfl Try.func103 (by kernel_rfl) rfl #[.agg #[.int .u64 ((rd_T25 l0 t183).f0), .int .u64 ((rd_T25 l0 t183).f1), .int .u64 ((rd_T25 l0 t183).f2), .int .u64 ((rd_T25 l0 t183).f3), .int .u64 ((rd_T25 l0 t183).f4), .slice A185_5 ((rd_T25 l0 t183).f5).length c185_5, .bool ((rd_T25 l0 t183).f6)]] rfl (by (try simp only [List.map_toArray, List.map_cons, List.map_nil]); first | done | rfl | (simp only [List.length_drop, List.length_take]; rfl)) ?_; (with_reducible refine (ledger_own.calls ((rd_T25 l0 t183).f0) ((rd_T25 l0 t183).f1) ((rd_T25 l0 t183).f2) ((rd_T25 l0 t183).f3) ((rd_T25 l0 t183).f4) _ _ ((rd_T25 l0 t183).f5) ((rd_T25 l0 t183).f6) t186 t187 t188 t189 t190 t191 t194 _ ?side1 ?side2 A7.out).mono ?_); (case side1 => repeat (first | exact (Kd.C_below HR185_5.out HB.out) | (with_reducible refine Kd.C_alloc ?_ _) | (with_reducible refine Kd.C_drewN ?_ _) | (with_reducible refine Kd.C_drew ?_))); (case side2 => exact HC185_5.out); rintro e w10 ⟨v192, rfl, ho0, hb⟩; refine ⟨_, rfl, ?_⟩; have n0_ := Aside0.mk (Kd.R_lower ho0 (below_size (belN HB))); have n1_ := Aside0.mk (blk_below (g := gb182) (blkN BK182) hb); have n2_ := Aside0.mk (below_step (belN HB) hb); clear BK182; clear HB; have HO193 := n0_; have BK182 := n1_; have HB := n2_; clear n0_ n1_ n2_; (try clear hb); (try clear hb2); (try clear hk); (try clear hi); (try clear ho0); obtain ⟨hcz11_0, hcz11_1, hcz11_2, hcz11_3, hcz11_4, hcz11_5, hcz11_6, hfz11_0, hfz11_1, hfz11_2, hfz11_3, hfz11_4, hfz11_5, hfz11_6⟩ := cz7_ (w := w10) BK182.out; obtain ⟨Ao12, co12, eo12⟩ := Kd.R_slice HO193.out; subst eo12))
        refine bodyPost_ret (results_ct rfl _ _ gb182 25 #[.int .u64 t186, .int .u64 t187, .int .u64 t188, .int .u64 t189, .int .u64 t190, .slice Ao12 t191.length co12, .bool t194] (0, 0) _ rfl (by (with_reducible repeat (first | refine blk_drewN ?_ _ | refine blk_drew ?_ | refine blk_alloc ?_ _)); refine blk_put (cs := #[.int .u64 t186, .int .u64 t187, .int .u64 t188, .int .u64 t189, .int .u64 t190, .slice Ao12 t191.length co12, .bool false]) ?_ 6 _ rfl; refine blk_put (cs := #[.int .u64 t186, .int .u64 t187, .int .u64 t188, .int .u64 t189, .int .u64 t190, .slice none 0 0, .bool false]) ?_ 5 _ rfl; refine blk_put (cs := #[.int .u64 t186, .int .u64 t187, .int .u64 t188, .int .u64 t189, .int .u64 0, .slice none 0 0, .bool false]) ?_ 4 _ rfl; refine blk_put (cs := #[.int .u64 t186, .int .u64 t187, .int .u64 t188, .int .u64 0, .int .u64 0, .slice none 0 0, .bool false]) ?_ 3 _ rfl; refine blk_put (cs := #[.int .u64 t186, .int .u64 t187, .int .u64 0, .int .u64 0, .int .u64 0, .slice none 0 0, .bool false]) ?_ 2 _ rfl; refine blk_put (cs := #[.int .u64 t186, .int .u64 0, .int .u64 0, .int .u64 0, .int .u64 0, .slice none 0 0, .bool false]) ?_ 1 _ rfl; refine blk_put (cs := #[.int .u64 0, .int .u64 0, .int .u64 0, .int .u64 0, .int .u64 0, .slice none 0 0, .bool false]) ?_ 0 _ rfl; (with_reducible repeat (first | refine blk_drewN ?_ _ | refine blk_drew ?_ | refine blk_alloc ?_ _)); exact BK182.out) Try.underlying25 rfl (by kernel_rfl)) rfl ?_
        exact ⟨_, by first | rfl | (simp [errW_none, errW_some] <;> rfl) | (simp [*, errW_none, errW_some] <;> rfl), by (with_reducible repeat (first | apply Kd.R_alloc | apply Kd.R_drewN | apply Kd.R_drew)); exact Kd.R_mono (Kd.R_far (p := ⟨gb182, 6, none⟩) (Kd.R_far (p := ⟨gb182, 5, none⟩) (Kd.R_far (p := ⟨gb182, 4, none⟩) (Kd.R_far (p := ⟨gb182, 3, none⟩) (Kd.R_far (p := ⟨gb182, 2, none⟩) (Kd.R_far (p := ⟨gb182, 1, none⟩) (Kd.R_far (p := ⟨gb182, 0, none⟩) (Kd.R_types HO193.out BK182.out (by decide)) (fun _ hk => hk.2) (.int .u64 t186)) (fun _ hk => hk.2) (.int .u64 t187)) (fun _ hk => hk.2) (.int .u64 t188)) (fun _ hk => hk.2) (.int .u64 t189)) (fun _ hk => hk.2) (.int .u64 t190)) (fun _ hk => hk.2) (.slice Ao12 t191.length co12)) (fun _ hk => hk.2) (.bool t194)) (fun _ hk => trivial), by repeat (first | (with_reducible first | exact HB.out | apply below_alloc | apply pw_below_drewN | apply below_drew1 | refine below_set ?_ GE182.out) | exact HB.out)⟩
      · rw [if_neg c6] at H
        exact absurd H (by simp)
    · rw [if_neg c5] at H
      exact absurd H (by simp)
  · rw [if_neg c4] at H
    have c4b0 : (t184 == 0) = false := beq_eq_false_iff_ne.mpr c4
    have c4b1 : (t184 != 0) = true := bne_iff_ne.mpr c4
    simp only [Option.some.injEq, Prod.mk.injEq] at H
    obtain ⟨rfl, rfl, rfl, rfl, rfl, rfl, rfl, rfl⟩ := H
    go_enter Try.func47, Try.ntmps47
    go_wp2_with (first | ((with_reducible refine gate_dst (N := 4) rfl ?_); refine box_event ?hg (N := 4) ?hd (cs := #[.int .u64 0, .int .u64 0, .int .u64 0, .int .u64 0, .int .u64 0, .slice none 0 0, .bool false]) (t := 25) ?hr ?_; (case hd => rfl); (case hg => rfl); (case hr => first | (go_simp; done) | (go_simp; rfl)); intro gb182 hg w13 hbox hb; have n0_ := Aside0.mk (below_step (belN HB) hb); have n1_ := Aside0.mk (hbox); have n2_ := Aside0.mk ((by rw [hg]; exact (below_size (belN HB)) : w.heap.size ≤ gb182)); have n3_ := Aside0.mk ((by rw [hg]; exact (below_size (belN HB)) : w.heap.size ≤ gb182)); clear HB; have HB := n0_; have BK182 := n1_; have GW182 := n2_; have GE182 := n3_; clear n0_ n1_ n2_ n3_; clear hb hbox hg) | ((with_reducible refine gate_callee (f := 104) rfl ?_); refine goesL_ (some 11) rfl rfl Try.func104 (by kernel_rfl) rfl #[.slice A0 l0.length c0, .int .u64 a1] rfl (by (try simp only [List.map_toArray, List.map_cons, List.map_nil]); first | done | rfl | (simp only [List.length_drop, List.length_take]; rfl)) ?_; (with_reducible refine (ledger_place.calls k _ _ l0 a1 t183 t184 _ ?side1 ?side2 A3.out).mono ?_); (case side1 => repeat (first | exact (Kd.C_below HR0.out HB.out) | (with_reducible refine Kd.C_alloc ?_ _) | (with_reducible refine Kd.C_drewN ?_ _) | (with_reducible refine Kd.C_drew ?_))); (case side2 => exact HC0.out); rintro e w14 ⟨rfl, hb⟩; refine ⟨_, rfl, ?_⟩; have n0_ := Aside0.mk (blk_below (g := gb182) (blkN BK182) hb); have n1_ := Aside0.mk (below_step (belN HB) hb); clear BK182; clear HB; have BK182 := n0_; have HB := n1_; clear n0_ n1_; (try clear hb); (try clear hb2); (try clear hk); (try clear hi); obtain ⟨hcz15_0, hcz15_1, hcz15_2, hcz15_3, hcz15_4, hcz15_5, hcz15_6, hfz15_0, hfz15_1, hfz15_2, hfz15_3, hfz15_4, hfz15_5, hfz15_6⟩ := cz7_ (w := w14) BK182.out))
    refine bodyPost_ret (results_ct rfl _ _ gb182 25 #[.int .u64 0, .int .u64 0, .int .u64 0, .int .u64 0, .int .u64 0, .slice none 0 0, .bool false] (0, 0) _ rfl (by (with_reducible repeat (first | refine blk_drewN ?_ _ | refine blk_drew ?_ | refine blk_alloc ?_ _)); refine blk_put (cs := #[.int .u64 0, .int .u64 0, .int .u64 0, .int .u64 0, .int .u64 0, .slice none 0 0, .bool false]) ?_ 6 _ rfl; refine blk_put (cs := #[.int .u64 0, .int .u64 0, .int .u64 0, .int .u64 0, .int .u64 0, .slice none 0 0, .bool false]) ?_ 5 _ rfl; refine blk_put (cs := #[.int .u64 0, .int .u64 0, .int .u64 0, .int .u64 0, .int .u64 0, .slice none 0 0, .bool false]) ?_ 4 _ rfl; refine blk_put (cs := #[.int .u64 0, .int .u64 0, .int .u64 0, .int .u64 0, .int .u64 0, .slice none 0 0, .bool false]) ?_ 3 _ rfl; refine blk_put (cs := #[.int .u64 0, .int .u64 0, .int .u64 0, .int .u64 0, .int .u64 0, .slice none 0 0, .bool false]) ?_ 2 _ rfl; refine blk_put (cs := #[.int .u64 0, .int .u64 0, .int .u64 0, .int .u64 0, .int .u64 0, .slice none 0 0, .bool false]) ?_ 1 _ rfl; refine blk_put (cs := #[.int .u64 0, .int .u64 0, .int .u64 0, .int .u64 0, .int .u64 0, .slice none 0 0, .bool false]) ?_ 0 _ rfl; (with_reducible repeat (first | refine blk_drewN ?_ _ | refine blk_drew ?_ | refine blk_alloc ?_ _)); exact BK182.out) Try.underlying25 rfl (by kernel_rfl)) rfl ?_
    exact ⟨_, by first | rfl | (simp [errW_none, errW_some] <;> rfl) | (simp [*, errW_none, errW_some] <;> rfl), by first | exact Kd.R_nil _ _ _ _ _ | exact Kd.N_nil _ _ _ _ _ | exact Kd.V_nil _ _ _ _ _ | exact Kd.Q_nil _ _ _ _ _ | exact Kd.S_nil _ _ _ _ _, by repeat (first | (with_reducible first | exact HB.out | apply below_alloc | apply pw_below_drewN | apply below_drew1 | refine below_set ?_ GE182.out) | exact HB.out)⟩

-- NOT PRINTED: function 105 (slices_EqualFunc_Channel)

/-! ### slices_EqualFunc_Channel_at_channel_Same: function 165 -/
def slices_EqualFunc_Channel_at_channel_Same.l0 : Nat → List (S25) → List (S25) → Int → Int → Option (Bool)
 | 0, _, _, _, _ => none
 | k + 1, x1, x15, x16, x17 => if x17 < x16 then (if 0 ≤ x17 then (if x17 < (x15.length : Int) then (if x17 < (x1.length : Int) then ((channel_Same.f k ((rd_T25 x15 x17).f0) ((rd_T25 x15 x17).f1) ((rd_T25 x15 x17).f2) ((rd_T25 x15 x17).f3) ((rd_T25 x15 x17).f4) ((rd_T25 x15 x17).f5) ((rd_T25 x15 x17).f6) ((rd_T25 x1 x17).f0) ((rd_T25 x1 x17).f1) ((rd_T25 x1 x17).f2) ((rd_T25 x1 x17).f3) ((rd_T25 x1 x17).f4) ((rd_T25 x1 x17).f5) ((rd_T25 x1 x17).f6)).bind fun t199 => (if t199 = true then (slices_EqualFunc_Channel_at_channel_Same.l0 k x1 x15 x16 (wrap64 (x17 + 1))) else (some false))) else (none)) else (none)) else (none)) else (some true)
def slices_EqualFunc_Channel_at_channel_Same.f (k : Nat) (l0 : List (S25)) (l1 : List (S25))  : Option (Bool) := if (l0.length : Int) = (l1.length : Int) then (slices_EqualFunc_Channel_at_channel_Same.l0 k l1 l0 (l0.length : Int) 0) else (some false)
theorem slices_EqualFunc_Channel_at_channel_Same.mono_l : ∀ k, (∀ y0 y1 y2 y3, LeO (slices_EqualFunc_Channel_at_channel_Same.l0 k y0 y1 y2 y3) (slices_EqualFunc_Channel_at_channel_Same.l0 (k + 1) y0 y1 y2 y3))
 | 0 => fun _ _ _ _ r h => by simp [slices_EqualFunc_Channel_at_channel_Same.l0] at h
 | k + 1 => by
  have ih0 := slices_EqualFunc_Channel_at_channel_Same.mono_l k
  ·intro y0 y1 y2 y3
   unfold slices_EqualFunc_Channel_at_channel_Same.l0
   repeat' first
   | (with_reducible exact ih0 _ _ _ _)
   | (with_reducible exact channel_Same.mono _ _ _ _ _ _ _ _ _ _ _ _ _ _ _)
   | (with_reducible exact LeO.refl _)
   | (with_reducible exact LeO.none _)
   | (with_reducible refine LeO.ite ?_ ?_)
   | (with_reducible refine LeO.bind ?_ (fun _ => ?_))
   | exact ih0 _ _ _ _
   | exact channel_Same.mono _ _ _ _ _ _ _ _ _ _ _ _ _ _ _
   | exact LeO.none _
   | refine LeO.ite ?_ ?_
   | refine LeO.bind ?_ (fun _ => ?_)
theorem slices_EqualFunc_Channel_at_channel_Same.mono : ∀ a0 a1 k, LeO (slices_EqualFunc_Channel_at_channel_Same.f k a0 a1) (slices_EqualFunc_Channel_at_channel_Same.f (k + 1) a0 a1) := by
 intro a0 a1 k
 have ih0 := slices_EqualFunc_Channel_at_channel_Same.mono_l k
 unfold slices_EqualFunc_Channel_at_channel_Same.f
 repeat' first
   | (with_reducible exact ih0 _ _ _ _)
   | (with_reducible exact channel_Same.mono _ _ _ _ _ _ _ _ _ _ _ _ _ _ _)
   | (with_reducible exact LeO.refl _)
   | (with_reducible exact LeO.none _)
   | (with_reducible refine LeO.ite ?_ ?_)
   | (with_reducible refine LeO.bind ?_ (fun _ => ?_))
   | exact ih0 _ _ _ _
   | exact channel_Same.mono _ _ _ _ _ _ _ _ _ _ _ _ _ _ _
   | exact LeO.none _
   | refine LeO.ite ?_ ?_
   | refine LeO.bind ?_ (fun _ => ?_)
set_option maxHeartbeats 8000000 in
set_option maxRecDepth 100000 in
theorem slices_EqualFunc_Channel_at_channel_Same.calls (k : Nat) (A0 : Option Addr) (c0 : Nat) (l0 : List (S25)) (A1 : Option Addr) (c1 : Nat) (l1 : List (S25))  (r : Bool) (w : World) (hr0 : Kd.C k25 w A0 l0.length l0) (hc0 : l0.length ≤ c0) (hr1 : Kd.C k25 w A1 l1.length l1) (hc1 : l1.length ≤ c1) (h : slices_EqualFunc_Channel_at_channel_Same.f k l0 l1 = some r) :
  Calls Try.prog 105 #[.slice A0 l0.length c0, .slice A1 l1.length c1, .func (.func 26) #[] #[]] w fun e w' => e = .returned (.bool r) ∧ Below w.heap.size w w' := by
 have hu25 := Try.underlying25
 have HR0 := Aside0.mk hr0
 have HC0 := Aside0.mk hc0
 clear hr0 hc0
 have HR1 := Aside0.mk hr1
 have HC1 := Aside0.mk hc1
 clear hr1 hc1
 have HB := Aside0.mk (Below.refl w.heap.size w)
 have H : (if (l0.length : Int) = (l1.length : Int) then (slices_EqualFunc_Channel_at_channel_Same.l0 k l1 l0 (l0.length : Int) 0) else (some false)) = some r := h
 clear h
 by_cases c4 : (l0.length : Int) = (l1.length : Int)
 ·rw [if_pos c4] at H
  have c4b0 : ((l0.length : Int) == (l1.length : Int)) = true := beq_iff_eq.mpr c4
  have c4b1 : ((l0.length : Int) != (l1.length : Int)) = false := bne_eq_false_iff_eq.mpr c4
  have c4b2 : (l0.length == l1.length) = true := by first | simpa using c4 | (simp at c4 ⊢; omega)
  clear c4
  have H' := Aside0.mk H
  clear H
  go_enter Try.func105, Try.ntmps105
  go_wp2
  go_loopg [17] k (fun kq v17 w' => ∃ (x17_1 : Int), v17 = .int .i64 x17_1 ∧ Aside0 (slices_EqualFunc_Channel_at_channel_Same.l0 kq l1 l0 (l0.length : Int) x17_1 = some r) ∧ Aside0 (kq ≤ k) ∧ Aside0 (Below w.heap.size w w'))
  case atStart => exact ⟨(0), (by first | rfl | (simp; done) | (simp [*]; done)), H', ⟨Nat.le_refl _⟩, ⟨by repeat (first | (with_reducible first | exact HB.out | apply below_alloc | apply pw_below_drewN | apply below_drew1) | exact HB.out)⟩⟩
  case round =>
   clear H'
   try clear c1
   try clear p2
   try clear c4
   try clear c4b0
   try clear c4b1
   try clear c4b2
   obtain ⟨x17_1, rfl, HA, HK1, HB⟩ := hrel
   cases gk with
   | zero => exact absurd HA.out (by simp [slices_EqualFunc_Channel_at_channel_Same.l0])
   | succ k1 =>
    have H := HA.out
    clear HA
    simp only [slices_EqualFunc_Channel_at_channel_Same.l0] at H
    by_cases c5 : x17_1 < (l0.length : Int)
    ·rw [if_pos c5] at H
     have c5b0 : decide (x17_1 < (l0.length : Int)) = true := decide_eq_true c5
     clear c5
     by_cases c6 : 0 ≤ x17_1
     ·rw [if_pos c6] at H
      have c6b0 : decide (0 ≤ x17_1) = true := decide_eq_true c6
      clear c6
      by_cases c7 : x17_1 < (l0.length : Int)
      ·rw [if_pos c7] at H
       have c7b0 : decide (x17_1 < (l0.length : Int)) = true := decide_eq_true c7
       clear c7
       by_cases c8 : x17_1 < (l1.length : Int)
       ·rw [if_pos c8] at H
        have c8b0 : decide (x17_1 < (l1.length : Int)) = true := decide_eq_true c8
        clear c8
        replace H := Option.bind_eq_some_iff.mp H
        obtain ⟨t199, A90, H⟩ := H
        replace H : (if t199 = true then (slices_EqualFunc_Channel_at_channel_Same.l0 k1 l1 l0 (l0.length : Int) (wrap64 (x17_1 + 1))) else (some false)) = some r := H
        have A9 := Aside0.mk A90
        clear A90
        by_cases c10 : t199 = true
        ·subst c10
         have H1 : (slices_EqualFunc_Channel_at_channel_Same.l0 k1 l1 l0 (l0.length : Int) (wrap64 (x17_1 + 1))) = some r := by rw [if_pos rfl] at H; exact H
         clear H
         have H := H1
         clear H1
         have H' := Aside0.mk H
         clear H
         have p195 : 0 ≤ (x17_1 : Int) := of_decide_eq_true (by first | (with_reducible assumption) | assumption)
         have q195 : x17_1 < (l0.length : Int) := of_decide_eq_true (by first | (with_reducible assumption) | assumption)
         obtain ⟨ad195, A195_5, c195_5, e195, hx195_0, hx195_1, hx195_2, hx195_3, hx195_4, hx195_5, hx195_6, hl195_5, hi195_5⟩ := at_T25 HR0.out x17_1 p195 q195
         cases e195
         replace hx195_0 := (HB.out.cell (World.block_lt_of_cell? w _ hx195_0)).trans hx195_0
         replace hx195_1 := (HB.out.cell (World.block_lt_of_cell? w _ hx195_1)).trans hx195_1
         replace hx195_2 := (HB.out.cell (World.block_lt_of_cell? w _ hx195_2)).trans hx195_2
         replace hx195_3 := (HB.out.cell (World.block_lt_of_cell? w _ hx195_3)).trans hx195_3
         replace hx195_4 := (HB.out.cell (World.block_lt_of_cell? w _ hx195_4)).trans hx195_4
         replace hx195_5 := (HB.out.cell (World.block_lt_of_cell? w _ hx195_5)).trans hx195_5
         replace hx195_6 := (HB.out.cell (World.block_lt_of_cell? w _ hx195_6)).trans hx195_6
         have HR195_5 := Aside0.mk hi195_5
         have HC195_5 := Aside0.mk hl195_5
         clear hi195_5 hl195_5
         replace p195 := eq_true p195
         replace q195 := eq_true q195
         go_wp2_with (first | ((with_reducible refine gate_dst (N := 8) rfl ?_); refine box_event ?hg (N := 8) ?hd (cs := #[.int .u64 0, .int .u64 0, .int .u64 0, .int .u64 0, .int .u64 0, .slice none 0 0, .bool false]) (t := 25) ?hr ?_; (case hd => rfl); (case hg => rfl); (case hr => first | (go_simp; done) | (go_simp; rfl)); intro gb196 hg w11 hbox hb; have n0_ := Aside0.mk (below_step (belN HB) hb); have n1_ := Aside0.mk (hbox); have n2_ := Aside0.mk ((by rw [hg]; exact (below_size (belN HB)) : w.heap.size ≤ gb196)); have n3_ := Aside0.mk ((by rw [hg]; exact (below_size (belN HB)) : w.heap.size ≤ gb196)); clear HB; have HB := n0_; have BK196 := n1_; have GW196 := n2_; have GE196 := n3_; clear n0_ n1_ n2_ n3_; clear hb hbox hg; obtain ⟨hcz12_0, hcz12_1, hcz12_2, hcz12_3, hcz12_4, hcz12_5, hcz12_6, hfz12_0, hfz12_1, hfz12_2, hfz12_3, hfz12_4, hfz12_5, hfz12_6⟩ := cz7_ (w := w11) BK196.out; have p197 : 0 ≤ (x17_1 : Int) := of_decide_eq_true (by first | (with_reducible assumption) | assumption); have q197 : x17_1 < (l1.length : Int) := of_decide_eq_true (by first | (with_reducible assumption) | assumption); obtain ⟨ad197, A197_5, c197_5, e197, hx197_0, hx197_1, hx197_2, hx197_3, hx197_4, hx197_5, hx197_6, hl197_5, hi197_5⟩ := at_T25 HR1.out x17_1 p197 q197; cases e197; have hn197_0 : ad197.block ≠ gb196 := Nat.ne_of_lt (Nat.lt_of_lt_of_le (by have := World.block_lt_of_cell? _ _ hx197_0; first | rwa [add_block] at this | exact this) GW196.out); have hn197_1 : ad197.block ≠ gb196 := Nat.ne_of_lt (Nat.lt_of_lt_of_le (by have := World.block_lt_of_cell? _ _ hx197_0; first | rwa [add_block] at this | exact this) GW196.out); have hn197_2 : ad197.block ≠ gb196 := Nat.ne_of_lt (Nat.lt_of_lt_of_le (by have := World.block_lt_of_cell? _ _ hx197_0; first | rwa [add_block] at this | exact this) GW196.out); have hn197_3 : ad197.block ≠ gb196 := Nat.ne_of_lt (Nat.lt_of_lt_of_le (by have := World.block_lt_of_cell? _ _ hx197_0; first | rwa [add_block] at this | exact this) GW196.out); have hn197_4 : ad197.block ≠ gb196 := Nat.ne_of_lt (Nat.lt_of_lt_of_le (by have := World.block_lt_of_cell? _ _ hx197_0; first | rwa [add_block] at this | exact this) GW196.out); have hn197_5 : ad197.block ≠ gb196 := Nat.ne_of_lt (Nat.lt_of_lt_of_le (by have := World.block_lt_of_cell? _ _ hx197_0; first | rwa [add_block] at this | exact this) GW196.out); have hn197_6 : ad197.block ≠ gb196 := Nat.ne_of_lt (Nat.lt_of_lt_of_le (by have := World.block_lt_of_cell? _ _ hx197_0; first | rwa [add_block] at this | exact this) GW196.out); replace hx197_0 := (HB.out.cell (World.block_lt_of_cell? w _ hx197_0)).trans hx197_0; replace hx197_1 := (HB.out.cell (World.block_lt_of_cell? w _ hx197_1)).trans hx197_1; replace hx197_2 := (HB.out.cell (World.block_lt_of_cell? w _ hx197_2)).trans hx197_2; replace hx197_3 := (HB.out.cell (World.block_lt_of_cell? w _ hx197_3)).trans hx197_3; replace hx197_4 := (HB.out.cell (World.block_lt_of_cell? w _ hx197_4)).trans hx197_4; replace hx197_5 := (HB.out.cell (World.block_lt_of_cell? w _ hx197_5)).trans hx197_5; replace hx197_6 := (HB.out.cell (World.block_lt_of_cell? w _ hx197_6)).trans hx197_6; have HR197_5 := Aside0.mk hi197_5; have HC197_5 := Aside0.mk hl197_5; clear hi197_5 hl197_5; replace hx197_0 := (cell_far (p := ⟨gb196, 0, none⟩) (by first | (rw [add_block]; exact hn197_0) | (show (Addr.add _ _).block ≠ _; rw [add_block]; exact hn197_0) | exact hn197_0) (.int .u64 ((rd_T25 l0 x17_1).f0))).trans hx197_0; replace hx197_1 := (cell_far (p := ⟨gb196, 0, none⟩) (by first | (rw [add_block]; exact hn197_0) | (show (Addr.add _ _).block ≠ _; rw [add_block]; exact hn197_0) | exact hn197_0) (.int .u64 ((rd_T25 l0 x17_1).f0))).trans hx197_1; replace hx197_2 := (cell_far (p := ⟨gb196, 0, none⟩) (by first | (rw [add_block]; exact hn197_0) | (show (Addr.add _ _).block ≠ _; rw [add_block]; exact hn197_0) | exact hn197_0) (.int .u64 ((rd_T25 l0 x17_1).f0))).trans hx197_2; replace hx197_3 := (cell_far (p := ⟨gb196, 0, none⟩) (by first | (rw [add_block]; exact hn197_0) | (show (Addr.add _ _).block ≠ _; rw [add_block]; exact hn197_0) | exact hn197_0) (.int .u64 ((rd_T25 l0 x17_1).f0))).trans hx197_3; replace hx197_4 := (cell_far (p := ⟨gb196, 0, none⟩) (by first | (rw [add_block]; exact hn197_0) | (show (Addr.add _ _).block ≠ _; rw [add_block]; exact hn197_0) | exact hn197_0) (.int .u64 ((rd_T25 l0 x17_1).f0))).trans hx197_4; replace hx197_5 := (cell_far (p := ⟨gb196, 0, none⟩) (by first | (rw [add_block]; exact hn197_0) | (show (Addr.add _ _).block ≠ _; rw [add_block]; exact hn197_0) | exact hn197_0) (.int .u64 ((rd_T25 l0 x17_1).f0))).trans hx197_5; replace hx197_6 := (cell_far (p := ⟨gb196, 0, none⟩) (by first | (rw [add_block]; exact hn197_0) | (show (Addr.add _ _).block ≠ _; rw [add_block]; exact hn197_0) | exact hn197_0) (.int .u64 ((rd_T25 l0 x17_1).f0))).trans hx197_6; replace hx197_0 := (cell_far (p := ⟨gb196, 1, none⟩) (by first | (rw [add_block]; exact hn197_1) | (show (Addr.add _ _).block ≠ _; rw [add_block]; exact hn197_1) | exact hn197_1) (.int .u64 ((rd_T25 l0 x17_1).f1))).trans hx197_0; replace hx197_1 := (cell_far (p := ⟨gb196, 1, none⟩) (by first | (rw [add_block]; exact hn197_1) | (show (Addr.add _ _).block ≠ _; rw [add_block]; exact hn197_1) | exact hn197_1) (.int .u64 ((rd_T25 l0 x17_1).f1))).trans hx197_1; replace hx197_2 := (cell_far (p := ⟨gb196, 1, none⟩) (by first | (rw [add_block]; exact hn197_1) | (show (Addr.add _ _).block ≠ _; rw [add_block]; exact hn197_1) | exact hn197_1) (.int .u64 ((rd_T25 l0 x17_1).f1))).trans hx197_2; replace hx197_3 := (cell_far (p := ⟨gb196, 1, none⟩) (by first | (rw [add_block]; exact hn197_1) | (show (Addr.add _ _).block ≠ _; rw [add_block]; exact hn197_1) | exact hn197_1) (.int .u64 ((rd_T25 l0 x17_1).f1))).trans hx197_3; replace hx197_4 := (cell_far (p := ⟨gb196, 1, none⟩) (by first | (rw [add_block]; exact hn197_1) | (show (Addr.add _ _).block ≠ _; rw [add_block]; exact hn197_1) | exact hn197_1) (.int .u64 ((rd_T25 l0 x17_1).f1))).trans hx197_4; replace hx197_5 := (cell_far (p := ⟨gb196, 1, none⟩) (by first | (rw [add_block]; exact hn197_1) | (show (Addr.add _ _).block ≠ _; rw [add_block]; exact hn197_1) | exact hn197_1) (.int .u64 ((rd_T25 l0 x17_1).f1))).trans hx197_5; replace hx197_6 := (cell_far (p := ⟨gb196, 1, none⟩) (by first | (rw [add_block]; exact hn197_1) | (show (Addr.add _ _).block ≠ _; rw [add_block]; exact hn197_1) | exact hn197_1) (.int .u64 ((rd_T25 l0 x17_1).f1))).trans hx197_6; replace hx197_0 := (cell_far (p := ⟨gb196, 2, none⟩) (by first | (rw [add_block]; exact hn197_2) | (show (Addr.add _ _).block ≠ _; rw [add_block]; exact hn197_2) | exact hn197_2) (.int .u64 ((rd_T25 l0 x17_1).f2))).trans hx197_0; replace hx197_1 := (cell_far (p := ⟨gb196, 2, none⟩) (by first | (rw [add_block]; exact hn197_2) | (show (Addr.add _ _).block ≠ _; rw [add_block]; exact hn197_2) | exact hn197_2) (.int .u64 ((rd_T25 l0 x17_1).f2))).trans hx197_1; replace hx197_2 := (cell_far (p := ⟨gb196, 2, none⟩) (by first | (rw [add_block]; exact hn197_2) | (show (Addr.add _ _).block ≠ _; rw [add_block]; exact hn197_2) | exact hn197_2) (.int .u64 ((rd_T25 l0 x17_1).f2))).trans hx197_2; replace hx197_3 := (cell_far (p := ⟨gb196, 2, none⟩) (by first | (rw [add_block]; exact hn197_2) | (show (Addr.add _ _).block ≠ _; rw [add_block]; exact hn197_2) | exact hn197_2) (.int .u64 ((rd_T25 l0 x17_1).f2))).trans hx197_3; replace hx197_4 := (cell_far (p := ⟨gb196, 2, none⟩) (by first | (rw [add_block]; exact hn197_2) | (show (Addr.add _ _).block ≠ _; rw [add_block]; exact hn197_2) | exact hn197_2) (.int .u64 ((rd_T25 l0 x17_1).f2))).trans hx197_4; replace hx197_5 := (cell_far (p := ⟨gb196, 2, none⟩) (by first | (rw [add_block]; exact hn197_2) | (show (Addr.add _ _).block ≠ _; rw [add_block]; exact hn197_2) | exact hn197_2) (.int .u64 ((rd_T25 l0 x17_1).f2))).trans hx197_5; replace hx197_6 := (cell_far (p := ⟨gb196, 2, none⟩) (by first | (rw [add_block]; exact hn197_2) | (show (Addr.add _ _).block ≠ _; rw [add_block]; exact hn197_2) | exact hn197_2) (.int .u64 ((rd_T25 l0 x17_1).f2))).trans hx197_6; replace hx197_0 := (cell_far (p := ⟨gb196, 3, none⟩) (by first | (rw [add_block]; exact hn197_3) | (show (Addr.add _ _).block ≠ _; rw [add_block]; exact hn197_3) | exact hn197_3) (.int .u64 ((rd_T25 l0 x17_1).f3))).trans hx197_0; replace hx197_1 := (cell_far (p := ⟨gb196, 3, none⟩) (by first | (rw [add_block]; exact hn197_3) | (show (Addr.add _ _).block ≠ _; rw [add_block]; exact hn197_3) | exact hn197_3) (.int .u64 ((rd_T25 l0 x17_1).f3))).trans hx197_1; replace hx197_2 := (cell_far (p := ⟨gb196, 3, none⟩) (by first | (rw [add_block]; exact hn197_3) | (show (Addr.add _ _).block ≠ _; rw [add_block]; exact hn197_3) | exact hn197_3) (.int .u64 ((rd_T25 l0 x17_1).f3))).trans hx197_2; replace hx197_3 := (cell_far (p := ⟨gb196, 3, none⟩) (by first | (rw [add_block]; exact hn197_3) | (show (Addr.add _ _).block ≠ _; rw [add_block]; exact hn197_3) | exact hn197_3) (.int .u64 ((rd_T25 l0 x17_1).f3))).trans hx197_3; replace hx197_4 := (cell_far (p := ⟨gb196, 3, none⟩) (by first | (rw [add_block]; exact hn197_3) | (show (Addr.add _ _).block ≠ _; rw [add_block]; exact hn197_3) | exact hn197_3) (.int .u64 ((rd_T25 l0 x17_1).f3))).trans hx197_4; replace hx197_5 := (cell_far (p := ⟨gb196, 3, none⟩) (by first | (rw [add_block]; exact hn197_3) | (show (Addr.add _ _).block ≠ _; rw [add_block]; exact hn197_3) | exact hn197_3) (.int .u64 ((rd_T25 l0 x17_1).f3))).trans hx197_5; replace hx197_6 := (cell_far (p := ⟨gb196, 3, none⟩) (by first | (rw [add_block]; exact hn197_3) | (show (Addr.add _ _).block ≠ _; rw [add_block]; exact hn197_3) | exact hn197_3) (.int .u64 ((rd_T25 l0 x17_1).f3))).trans hx197_6; replace hx197_0 := (cell_far (p := ⟨gb196, 4, none⟩) (by first | (rw [add_block]; exact hn197_4) | (show (Addr.add _ _).block ≠ _; rw [add_block]; exact hn197_4) | exact hn197_4) (.int .u64 ((rd_T25 l0 x17_1).f4))).trans hx197_0; replace hx197_1 := (cell_far (p := ⟨gb196, 4, none⟩) (by first | (rw [add_block]; exact hn197_4) | (show (Addr.add _ _).block ≠ _; rw [add_block]; exact hn197_4) | exact hn197_4) (.int .u64 ((rd_T25 l0 x17_1).f4))).trans hx197_1; replace hx197_2 := (cell_far (p := ⟨gb196, 4, none⟩) (by first | (rw [add_block]; exact hn197_4) | (show (Addr.add _ _).block ≠ _; rw [add_block]; exact hn197_4) | exact hn197_4) (.int .u64 ((rd_T25 l0 x17_1).f4))).trans hx197_2; replace hx197_3 := (cell_far (p := ⟨gb196, 4, none⟩) (by first | (rw [add_block]; exact hn197_4) | (show (Addr.add _ _).block ≠ _; rw [add_block]; exact hn197_4) | exact hn197_4) (.int .u64 ((rd_T25 l0 x17_1).f4))).trans hx197_3; replace hx197_4 := (cell_far (p := ⟨gb196, 4, none⟩) (by first | (rw [add_block]; exact hn197_4) | (show (Addr.add _ _).block ≠ _; rw [add_block]; exact hn197_4) | exact hn197_4) (.int .u64 ((rd_T25 l0 x17_1).f4))).trans hx197_4; replace hx197_5 := (cell_far (p := ⟨gb196, 4, none⟩) (by first | (rw [add_block]; exact hn197_4) | (show (Addr.add _ _).block ≠ _; rw [add_block]; exact hn197_4) | exact hn197_4) (.int .u64 ((rd_T25 l0 x17_1).f4))).trans hx197_5; replace hx197_6 := (cell_far (p := ⟨gb196, 4, none⟩) (by first | (rw [add_block]; exact hn197_4) | (show (Addr.add _ _).block ≠ _; rw [add_block]; exact hn197_4) | exact hn197_4) (.int .u64 ((rd_T25 l0 x17_1).f4))).trans hx197_6; replace hx197_0 := (cell_far (p := ⟨gb196, 5, none⟩) (by first | (rw [add_block]; exact hn197_5) | (show (Addr.add _ _).block ≠ _; rw [add_block]; exact hn197_5) | exact hn197_5) (.slice A195_5 ((rd_T25 l0 x17_1).f5).length c195_5)).trans hx197_0; replace hx197_1 := (cell_far (p := ⟨gb196, 5, none⟩) (by first | (rw [add_block]; exact hn197_5) | (show (Addr.add _ _).block ≠ _; rw [add_block]; exact hn197_5) | exact hn197_5) (.slice A195_5 ((rd_T25 l0 x17_1).f5).length c195_5)).trans hx197_1; replace hx197_2 := (cell_far (p := ⟨gb196, 5, none⟩) (by first | (rw [add_block]; exact hn197_5) | (show (Addr.add _ _).block ≠ _; rw [add_block]; exact hn197_5) | exact hn197_5) (.slice A195_5 ((rd_T25 l0 x17_1).f5).length c195_5)).trans hx197_2; replace hx197_3 := (cell_far (p := ⟨gb196, 5, none⟩) (by first | (rw [add_block]; exact hn197_5) | (show (Addr.add _ _).block ≠ _; rw [add_block]; exact hn197_5) | exact hn197_5) (.slice A195_5 ((rd_T25 l0 x17_1).f5).length c195_5)).trans hx197_3; replace hx197_4 := (cell_far (p := ⟨gb196, 5, none⟩) (by first | (rw [add_block]; exact hn197_5) | (show (Addr.add _ _).block ≠ _; rw [add_block]; exact hn197_5) | exact hn197_5) (.slice A195_5 ((rd_T25 l0 x17_1).f5).length c195_5)).trans hx197_4; replace hx197_5 := (cell_far (p := ⟨gb196, 5, none⟩) (by first | (rw [add_block]; exact hn197_5) | (show (Addr.add _ _).block ≠ _; rw [add_block]; exact hn197_5) | exact hn197_5) (.slice A195_5 ((rd_T25 l0 x17_1).f5).length c195_5)).trans hx197_5; replace hx197_6 := (cell_far (p := ⟨gb196, 5, none⟩) (by first | (rw [add_block]; exact hn197_5) | (show (Addr.add _ _).block ≠ _; rw [add_block]; exact hn197_5) | exact hn197_5) (.slice A195_5 ((rd_T25 l0 x17_1).f5).length c195_5)).trans hx197_6; replace hx197_0 := (cell_far (p := ⟨gb196, 6, none⟩) (by first | (rw [add_block]; exact hn197_6) | (show (Addr.add _ _).block ≠ _; rw [add_block]; exact hn197_6) | exact hn197_6) (.bool ((rd_T25 l0 x17_1).f6))).trans hx197_0; replace hx197_1 := (cell_far (p := ⟨gb196, 6, none⟩) (by first | (rw [add_block]; exact hn197_6) | (show (Addr.add _ _).block ≠ _; rw [add_block]; exact hn197_6) | exact hn197_6) (.bool ((rd_T25 l0 x17_1).f6))).trans hx197_1; replace hx197_2 := (cell_far (p := ⟨gb196, 6, none⟩) (by first | (rw [add_block]; exact hn197_6) | (show (Addr.add _ _).block ≠ _; rw [add_block]; exact hn197_6) | exact hn197_6) (.bool ((rd_T25 l0 x17_1).f6))).trans hx197_2; replace hx197_3 := (cell_far (p := ⟨gb196, 6, none⟩) (by first | (rw [add_block]; exact hn197_6) | (show (Addr.add _ _).block ≠ _; rw [add_block]; exact hn197_6) | exact hn197_6) (.bool ((rd_T25 l0 x17_1).f6))).trans hx197_3; replace hx197_4 := (cell_far (p := ⟨gb196, 6, none⟩) (by first | (rw [add_block]; exact hn197_6) | (show (Addr.add _ _).block ≠ _; rw [add_block]; exact hn197_6) | exact hn197_6) (.bool ((rd_T25 l0 x17_1).f6))).trans hx197_4; replace hx197_5 := (cell_far (p := ⟨gb196, 6, none⟩) (by first | (rw [add_block]; exact hn197_6) | (show (Addr.add _ _).block ≠ _; rw [add_block]; exact hn197_6) | exact hn197_6) (.bool ((rd_T25 l0 x17_1).f6))).trans hx197_5; replace hx197_6 := (cell_far (p := ⟨gb196, 6, none⟩) (by first | (rw [add_block]; exact hn197_6) | (show (Addr.add _ _).block ≠ _; rw [add_block]; exact hn197_6) | exact hn197_6) (.bool ((rd_T25 l0 x17_1).f6))).trans hx197_6; clear hn197_0; clear hn197_1; clear hn197_2; clear hn197_3; clear hn197_4; clear hn197_5; clear hn197_6; replace p197 := eq_true p197; replace q197 := eq_true q197) | ((with_reducible refine gate_dst (N := 9) rfl ?_); refine box_event ?hg (N := 9) ?hd (cs := #[.int .u64 0, .int .u64 0, .int .u64 0, .int .u64 0, .int .u64 0, .slice none 0 0, .bool false]) (t := 25) ?hr ?_; (case hd => rfl); (case hg => rfl); (case hr => first | (go_simp; done) | (go_simp; rfl)); intro gb198 hg w13 hbox hb; have n0_ := Aside0.mk (blk_below (g := gb196) (o := .cells #[.int .u64 ((rd_T25 l0 x17_1).f0), .int .u64 ((rd_T25 l0 x17_1).f1), .int .u64 ((rd_T25 l0 x17_1).f2), .int .u64 ((rd_T25 l0 x17_1).f3), .int .u64 ((rd_T25 l0 x17_1).f4), .slice A195_5 ((rd_T25 l0 x17_1).f5).length c195_5, .bool ((rd_T25 l0 x17_1).f6)] 25 (0, 0)) (by (with_reducible repeat (first | refine blk_drewN ?_ _ | refine blk_drew ?_ | refine blk_alloc ?_ _)); refine blk_put (cs := #[.int .u64 ((rd_T25 l0 x17_1).f0), .int .u64 ((rd_T25 l0 x17_1).f1), .int .u64 ((rd_T25 l0 x17_1).f2), .int .u64 ((rd_T25 l0 x17_1).f3), .int .u64 ((rd_T25 l0 x17_1).f4), .slice A195_5 ((rd_T25 l0 x17_1).f5).length c195_5, .bool false]) ?_ 6 _ rfl; refine blk_put (cs := #[.int .u64 ((rd_T25 l0 x17_1).f0), .int .u64 ((rd_T25 l0 x17_1).f1), .int .u64 ((rd_T25 l0 x17_1).f2), .int .u64 ((rd_T25 l0 x17_1).f3), .int .u64 ((rd_T25 l0 x17_1).f4), .slice none 0 0, .bool false]) ?_ 5 _ rfl; refine blk_put (cs := #[.int .u64 ((rd_T25 l0 x17_1).f0), .int .u64 ((rd_T25 l0 x17_1).f1), .int .u64 ((rd_T25 l0 x17_1).f2), .int .u64 ((rd_T25 l0 x17_1).f3), .int .u64 0, .slice none 0 0, .bool false]) ?_ 4 _ rfl; refine blk_put (cs := #[.int .u64 ((rd_T25 l0 x17_1).f0), .int .u64 ((rd_T25 l0 x17_1).f1), .int .u64 ((rd_T25 l0 x17_1).f2), .int .u64 0, .int .u64 0, .slice none 0 0, .bool false]) ?_ 3 _ rfl; refine blk_put (cs := #[.int .u64 ((rd_T25 l0 x17_1).f0), .int .u64 ((rd_T25 l0 x17_1).f1), .int .u64 0, .int .u64 0, .int .u64 0, .slice none 0 0, .bool false]) ?_ 2 _ rfl; refine blk_put (cs := #[.int .u64 ((rd_T25 l0 x17_1).f0), .int .u64 0, .int .u64 0, .int .u64 0, .int .u64 0, .slice none 0 0, .bool false]) ?_ 1 _ rfl; refine blk_put (cs := #[.int .u64 0, .int .u64 0, .int .u64 0, .int .u64 0, .int .u64 0, .slice none 0 0, .bool false]) ?_ 0 _ rfl; (with_reducible repeat (first | refine blk_drewN ?_ _ | refine blk_drew ?_ | refine blk_alloc ?_ _)); exact BK196.out) hb); have n1_ := Aside0.mk (below_step (belN HB) hb); have n2_ := Aside0.mk (hbox); have n3_ := Aside0.mk ((by rw [hg]; exact (below_size (belN HB)) : w.heap.size ≤ gb198)); have n4_ := Aside0.mk ((by rw [hg]; exact (below_size (belN HB)) : w.heap.size ≤ gb198)); have n5_ := Aside0.mk ((by rw [hg]; exact Nat.ne_of_lt (blk_lt (g := gb196) (o := .cells #[.int .u64 ((rd_T25 l0 x17_1).f0), .int .u64 ((rd_T25 l0 x17_1).f1), .int .u64 ((rd_T25 l0 x17_1).f2), .int .u64 ((rd_T25 l0 x17_1).f3), .int .u64 ((rd_T25 l0 x17_1).f4), .slice A195_5 ((rd_T25 l0 x17_1).f5).length c195_5, .bool ((rd_T25 l0 x17_1).f6)] 25 (0, 0)) (by (with_reducible repeat (first | refine blk_drewN ?_ _ | refine blk_drew ?_ | refine blk_alloc ?_ _)); refine blk_put (cs := #[.int .u64 ((rd_T25 l0 x17_1).f0), .int .u64 ((rd_T25 l0 x17_1).f1), .int .u64 ((rd_T25 l0 x17_1).f2), .int .u64 ((rd_T25 l0 x17_1).f3), .int .u64 ((rd_T25 l0 x17_1).f4), .slice A195_5 ((rd_T25 l0 x17_1).f5).length c195_5, .bool false]) ?_ 6 _ rfl; refine blk_put (cs := #[.int .u64 ((rd_T25 l0 x17_1).f0), .int .u64 ((rd_T25 l0 x17_1).f1), .int .u64 ((rd_T25 l0 x17_1).f2), .int .u64 ((rd_T25 l0 x17_1).f3), .int .u64 ((rd_T25 l0 x17_1).f4), .slice none 0 0, .bool false]) ?_ 5 _ rfl; refine blk_put (cs := #[.int .u64 ((rd_T25 l0 x17_1).f0), .int .u64 ((rd_T25 l0 x17_1).f1), .int .u64 ((rd_T25 l0 x17_1).f2), .int .u64 ((rd_T25 l0 x17_1).f3), .int .u64 0, .slice none 0 0, .bool false]) ?_ 4 _ rfl; refine blk_put (cs := #[.int .u64 ((rd_T25 l0 x17_1).f0), .int .u64 ((rd_T25 l0 x17_1).f1), .int .u64 ((rd_T25 l0 x17_1).f2), .int .u64 0, .int .u64 0, .slice none 0 0, .bool false]) ?_ 3 _ rfl; refine blk_put (cs := #[.int .u64 ((rd_T25 l0 x17_1).f0), .int .u64 ((rd_T25 l0 x17_1).f1), .int .u64 0, .int .u64 0, .int .u64 0, .slice none 0 0, .bool false]) ?_ 2 _ rfl; refine blk_put (cs := #[.int .u64 ((rd_T25 l0 x17_1).f0), .int .u64 0, .int .u64 0, .int .u64 0, .int .u64 0, .slice none 0 0, .bool false]) ?_ 1 _ rfl; refine blk_put (cs := #[.int .u64 0, .int .u64 0, .int .u64 0, .int .u64 0, .int .u64 0, .slice none 0 0, .bool false]) ?_ 0 _ rfl; (with_reducible repeat (first | refine blk_drewN ?_ _ | refine blk_drew ?_ | refine blk_alloc ?_ _)); exact BK196.out)) : gb196 ≠ gb198)); have n6_ := Aside0.mk ((by rw [hg]; exact Nat.ne_of_gt (blk_lt (g := gb196) (o := .cells #[.int .u64 ((rd_T25 l0 x17_1).f0), .int .u64 ((rd_T25 l0 x17_1).f1), .int .u64 ((rd_T25 l0 x17_1).f2), .int .u64 ((rd_T25 l0 x17_1).f3), .int .u64 ((rd_T25 l0 x17_1).f4), .slice A195_5 ((rd_T25 l0 x17_1).f5).length c195_5, .bool ((rd_T25 l0 x17_1).f6)] 25 (0, 0)) (by (with_reducible repeat (first | refine blk_drewN ?_ _ | refine blk_drew ?_ | refine blk_alloc ?_ _)); refine blk_put (cs := #[.int .u64 ((rd_T25 l0 x17_1).f0), .int .u64 ((rd_T25 l0 x17_1).f1), .int .u64 ((rd_T25 l0 x17_1).f2), .int .u64 ((rd_T25 l0 x17_1).f3), .int .u64 ((rd_T25 l0 x17_1).f4), .slice A195_5 ((rd_T25 l0 x17_1).f5).length c195_5, .bool false]) ?_ 6 _ rfl; refine blk_put (cs := #[.int .u64 ((rd_T25 l0 x17_1).f0), .int .u64 ((rd_T25 l0 x17_1).f1), .int .u64 ((rd_T25 l0 x17_1).f2), .int .u64 ((rd_T25 l0 x17_1).f3), .int .u64 ((rd_T25 l0 x17_1).f4), .slice none 0 0, .bool false]) ?_ 5 _ rfl; refine blk_put (cs := #[.int .u64 ((rd_T25 l0 x17_1).f0), .int .u64 ((rd_T25 l0 x17_1).f1), .int .u64 ((rd_T25 l0 x17_1).f2), .int .u64 ((rd_T25 l0 x17_1).f3), .int .u64 0, .slice none 0 0, .bool false]) ?_ 4 _ rfl; refine blk_put (cs := #[.int .u64 ((rd_T25 l0 x17_1).f0), .int .u64 ((rd_T25 l0 x17_1).f1), .int .u64 ((rd_T25 l0 x17_1).f2), .int .u64 0, .int .u64 0, .slice none 0 0, .bool false]) ?_ 3 _ rfl; refine blk_put (cs := #[.int .u64 ((rd_T25 l0 x17_1).f0), .int .u64 ((rd_T25 l0 x17_1).f1), .int .u64 0, .int .u64 0, .int .u64 0, .slice none 0 0, .bool false]) ?_ 2 _ rfl; refine blk_put (cs := #[.int .u64 ((rd_T25 l0 x17_1).f0), .int .u64 0, .int .u64 0, .int .u64 0, .int .u64 0, .slice none 0 0, .bool false]) ?_ 1 _ rfl; refine blk_put (cs := #[.int .u64 0, .int .u64 0, .int .u64 0, .int .u64 0, .int .u64 0, .slice none 0 0, .bool false]) ?_ 0 _ rfl; (with_reducible repeat (first | refine blk_drewN ?_ _ | refine blk_drew ?_ | refine blk_alloc ?_ _)); exact BK196.out)) : gb198 ≠ gb196)); clear BK196; clear HB; have BK196 := n0_; have HB := n1_; have BK198 := n2_; have GW198 := n3_; have GE198 := n4_; have NB196_198 := n5_; have NB198_196 := n6_; clear n0_ n1_ n2_ n3_ n4_ n5_ n6_; clear hb hbox hg; have hnb14 := NB198_196.out; have hnc14 := NB196_198.out; obtain ⟨hcz15_0, hcz15_1, hcz15_2, hcz15_3, hcz15_4, hcz15_5, hcz15_6, hfz15_0, hfz15_1, hfz15_2, hfz15_3, hfz15_4, hfz15_5, hfz15_6⟩ := cz7_ (w := w13) BK198.out; obtain ⟨hcz16_0, hcz16_1, hcz16_2, hcz16_3, hcz16_4, hcz16_5, hcz16_6, hfz16_0, hfz16_1, hfz16_2, hfz16_3, hfz16_4, hfz16_5, hfz16_6⟩ := cz7_ (w := w13) BK196.out) | ((with_reducible refine gate_tmp (t_ := 26) rfl ?_); refine goesT_ (some 29) rfl rfl Try.func26 (by kernel_rfl) rfl #[.agg #[.int .u64 ((rd_T25 l0 x17_1).f0), .int .u64 ((rd_T25 l0 x17_1).f1), .int .u64 ((rd_T25 l0 x17_1).f2), .int .u64 ((rd_T25 l0 x17_1).f3), .int .u64 ((rd_T25 l0 x17_1).f4), .slice A195_5 ((rd_T25 l0 x17_1).f5).length c195_5, .bool ((rd_T25 l0 x17_1).f6)], .agg #[.int .u64 ((rd_T25 l1 x17_1).f0), .int .u64 ((rd_T25 l1 x17_1).f1), .int .u64 ((rd_T25 l1 x17_1).f2), .int .u64 ((rd_T25 l1 x17_1).f3), .int .u64 ((rd_T25 l1 x17_1).f4), .slice A197_5 ((rd_T25 l1 x17_1).f5).length c197_5, .bool ((rd_T25 l1 x17_1).f6)]] rfl rfl (by (try simp only [List.map_toArray, List.map_cons, List.map_nil]); first | done | rfl | (simp only [List.length_drop, List.length_take]; rfl)) ?_; (with_reducible refine (channel_Same.calls k1 ((rd_T25 l0 x17_1).f0) ((rd_T25 l0 x17_1).f1) ((rd_T25 l0 x17_1).f2) ((rd_T25 l0 x17_1).f3) ((rd_T25 l0 x17_1).f4) _ _ ((rd_T25 l0 x17_1).f5) ((rd_T25 l0 x17_1).f6) ((rd_T25 l1 x17_1).f0) ((rd_T25 l1 x17_1).f1) ((rd_T25 l1 x17_1).f2) ((rd_T25 l1 x17_1).f3) ((rd_T25 l1 x17_1).f4) _ _ ((rd_T25 l1 x17_1).f5) ((rd_T25 l1 x17_1).f6) true _ ?side1 ?side2 ?side3 ?side4 A9.out).mono ?_); (case side1 => exact Kd.C_below HR195_5.out (belN HB)); (case side2 => exact HC195_5.out); (case side3 => exact Kd.C_below HR197_5.out (belN HB)); (case side4 => exact HC197_5.out); rintro e w17 ⟨rfl, hb⟩; refine ⟨_, rfl, ?_⟩; have n0_ := Aside0.mk (blk_below (g := gb196) (blkF BK196) hb); have n1_ := Aside0.mk (blk_below (g := gb198) (o := .cells #[.int .u64 ((rd_T25 l1 x17_1).f0), .int .u64 ((rd_T25 l1 x17_1).f1), .int .u64 ((rd_T25 l1 x17_1).f2), .int .u64 ((rd_T25 l1 x17_1).f3), .int .u64 ((rd_T25 l1 x17_1).f4), .slice A197_5 ((rd_T25 l1 x17_1).f5).length c197_5, .bool ((rd_T25 l1 x17_1).f6)] 25 (0, 0)) (by (with_reducible repeat (first | refine blk_drewN ?_ _ | refine blk_drew ?_ | refine blk_alloc ?_ _)); refine blk_put (cs := #[.int .u64 ((rd_T25 l1 x17_1).f0), .int .u64 ((rd_T25 l1 x17_1).f1), .int .u64 ((rd_T25 l1 x17_1).f2), .int .u64 ((rd_T25 l1 x17_1).f3), .int .u64 ((rd_T25 l1 x17_1).f4), .slice A197_5 ((rd_T25 l1 x17_1).f5).length c197_5, .bool false]) ?_ 6 _ rfl; refine blk_put (cs := #[.int .u64 ((rd_T25 l1 x17_1).f0), .int .u64 ((rd_T25 l1 x17_1).f1), .int .u64 ((rd_T25 l1 x17_1).f2), .int .u64 ((rd_T25 l1 x17_1).f3), .int .u64 ((rd_T25 l1 x17_1).f4), .slice none 0 0, .bool false]) ?_ 5 _ rfl; refine blk_put (cs := #[.int .u64 ((rd_T25 l1 x17_1).f0), .int .u64 ((rd_T25 l1 x17_1).f1), .int .u64 ((rd_T25 l1 x17_1).f2), .int .u64 ((rd_T25 l1 x17_1).f3), .int .u64 0, .slice none 0 0, .bool false]) ?_ 4 _ rfl; refine blk_put (cs := #[.int .u64 ((rd_T25 l1 x17_1).f0), .int .u64 ((rd_T25 l1 x17_1).f1), .int .u64 ((rd_T25 l1 x17_1).f2), .int .u64 0, .int .u64 0, .slice none 0 0, .bool false]) ?_ 3 _ rfl; refine blk_put (cs := #[.int .u64 ((rd_T25 l1 x17_1).f0), .int .u64 ((rd_T25 l1 x17_1).f1), .int .u64 0, .int .u64 0, .int .u64 0, .slice none 0 0, .bool false]) ?_ 2 _ rfl; refine blk_put (cs := #[.int .u64 ((rd_T25 l1 x17_1).f0), .int .u64 0, .int .u64 0, .int .u64 0, .int .u64 0, .slice none 0 0, .bool false]) ?_ 1 _ rfl; refine blk_put (cs := #[.int .u64 0, .int .u64 0, .int .u64 0, .int .u64 0, .int .u64 0, .slice none 0 0, .bool false]) ?_ 0 _ rfl; (with_reducible repeat (first | refine blk_drewN ?_ _ | refine blk_drew ?_ | refine blk_alloc ?_ _)); exact BK198.out) hb); have n2_ := Aside0.mk (below_step (belN HB) hb); clear BK196; clear BK198; clear HB; have BK196 := n0_; have BK198 := n1_; have HB := n2_; clear n0_ n1_ n2_; (try clear hb); (try clear hb2); (try clear hk); (try clear hi)))
         go_roundg k1
         case measure => have := HK1.out; omega
         case rel => exact ⟨(wrap64 (x17_1 + 1)), (by first | rfl | (simp; done) | (simp [*]; done)), H', ⟨by have := HK1.out; omega⟩, ⟨by repeat (first | (with_reducible first | exact HB.out | apply below_alloc | apply pw_below_drewN | apply below_drew1 | refine below_set ?_ GE196.out | refine below_set ?_ GE198.out) | exact HB.out)⟩⟩
        ·replace c10 := Bool.eq_false_iff.mpr c10
         subst c10
         have H1 : (some false) = some r := by rw [if_neg (show ¬ (false = true) by decide)] at H; exact H
         clear H
         have H := H1
         clear H1
         obtain rfl := Option.some.inj H
         have p195 : 0 ≤ (x17_1 : Int) := of_decide_eq_true (by first | (with_reducible assumption) | assumption)
         have q195 : x17_1 < (l0.length : Int) := of_decide_eq_true (by first | (with_reducible assumption) | assumption)
         obtain ⟨ad195, A195_5, c195_5, e195, hx195_0, hx195_1, hx195_2, hx195_3, hx195_4, hx195_5, hx195_6, hl195_5, hi195_5⟩ := at_T25 HR0.out x17_1 p195 q195
         cases e195
         replace hx195_0 := (HB.out.cell (World.block_lt_of_cell? w _ hx195_0)).trans hx195_0
         replace hx195_1 := (HB.out.cell (World.block_lt_of_cell? w _ hx195_1)).trans hx195_1
         replace hx195_2 := (HB.out.cell (World.block_lt_of_cell? w _ hx195_2)).trans hx195_2
         replace hx195_3 := (HB.out.cell (World.block_lt_of_cell? w _ hx195_3)).trans hx195_3
         replace hx195_4 := (HB.out.cell (World.block_lt_of_cell? w _ hx195_4)).trans hx195_4
         replace hx195_5 := (HB.out.cell (World.block_lt_of_cell? w _ hx195_5)).trans hx195_5
         replace hx195_6 := (HB.out.cell (World.block_lt_of_cell? w _ hx195_6)).trans hx195_6
         have HR195_5 := Aside0.mk hi195_5
         have HC195_5 := Aside0.mk hl195_5
         clear hi195_5 hl195_5
         replace p195 := eq_true p195
         replace q195 := eq_true q195
         go_wp2_with (first | ((with_reducible refine gate_dst (N := 8) rfl ?_); refine box_event ?hg (N := 8) ?hd (cs := #[.int .u64 0, .int .u64 0, .int .u64 0, .int .u64 0, .int .u64 0, .slice none 0 0, .bool false]) (t := 25) ?hr ?_; (case hd => rfl); (case hg => rfl); (case hr => first | (go_simp; done) | (go_simp; rfl)); intro gb196 hg w18 hbox hb; have n0_ := Aside0.mk (below_step (belN HB) hb); have n1_ := Aside0.mk (hbox); have n2_ := Aside0.mk ((by rw [hg]; exact (below_size (belN HB)) : w.heap.size ≤ gb196)); have n3_ := Aside0.mk ((by rw [hg]; exact (below_size (belN HB)) : w.heap.size ≤ gb196)); clear HB; have HB := n0_; have BK196 := n1_; have GW196 := n2_; have GE196 := n3_; clear n0_ n1_ n2_ n3_; clear hb hbox hg; obtain ⟨hcz19_0, hcz19_1, hcz19_2, hcz19_3, hcz19_4, hcz19_5, hcz19_6, hfz19_0, hfz19_1, hfz19_2, hfz19_3, hfz19_4, hfz19_5, hfz19_6⟩ := cz7_ (w := w18) BK196.out; have p197 : 0 ≤ (x17_1 : Int) := of_decide_eq_true (by first | (with_reducible assumption) | assumption); have q197 : x17_1 < (l1.length : Int) := of_decide_eq_true (by first | (with_reducible assumption) | assumption); obtain ⟨ad197, A197_5, c197_5, e197, hx197_0, hx197_1, hx197_2, hx197_3, hx197_4, hx197_5, hx197_6, hl197_5, hi197_5⟩ := at_T25 HR1.out x17_1 p197 q197; cases e197; have hn197_0 : ad197.block ≠ gb196 := Nat.ne_of_lt (Nat.lt_of_lt_of_le (by have := World.block_lt_of_cell? _ _ hx197_0; first | rwa [add_block] at this | exact this) GW196.out); have hn197_1 : ad197.block ≠ gb196 := Nat.ne_of_lt (Nat.lt_of_lt_of_le (by have := World.block_lt_of_cell? _ _ hx197_0; first | rwa [add_block] at this | exact this) GW196.out); have hn197_2 : ad197.block ≠ gb196 := Nat.ne_of_lt (Nat.lt_of_lt_of_le (by have := World.block_lt_of_cell? _ _ hx197_0; first | rwa [add_block] at this | exact this) GW196.out); have hn197_3 : ad197.block ≠ gb196 := Nat.ne_of_lt (Nat.lt_of_lt_of_le (by have := World.block_lt_of_cell? _ _ hx197_0; first | rwa [add_block] at this | exact this) GW196.out); have hn197_4 : ad197.block ≠ gb196 := Nat.ne_of_lt (Nat.lt_of_lt_of_le (by have := World.block_lt_of_cell? _ _ hx197_0; first | rwa [add_block] at this | exact this) GW196.out); have hn197_5 : ad197.block ≠ gb196 := Nat.ne_of_lt (Nat.lt_of_lt_of_le (by have := World.block_lt_of_cell? _ _ hx197_0; first | rwa [add_block] at this | exact this) GW196.out); have hn197_6 : ad197.block ≠ gb196 := Nat.ne_of_lt (Nat.lt_of_lt_of_le (by have := World.block_lt_of_cell? _ _ hx197_0; first | rwa [add_block] at this | exact this) GW196.out); replace hx197_0 := (HB.out.cell (World.block_lt_of_cell? w _ hx197_0)).trans hx197_0; replace hx197_1 := (HB.out.cell (World.block_lt_of_cell? w _ hx197_1)).trans hx197_1; replace hx197_2 := (HB.out.cell (World.block_lt_of_cell? w _ hx197_2)).trans hx197_2; replace hx197_3 := (HB.out.cell (World.block_lt_of_cell? w _ hx197_3)).trans hx197_3; replace hx197_4 := (HB.out.cell (World.block_lt_of_cell? w _ hx197_4)).trans hx197_4; replace hx197_5 := (HB.out.cell (World.block_lt_of_cell? w _ hx197_5)).trans hx197_5; replace hx197_6 := (HB.out.cell (World.block_lt_of_cell? w _ hx197_6)).trans hx197_6; have HR197_5 := Aside0.mk hi197_5; have HC197_5 := Aside0.mk hl197_5; clear hi197_5 hl197_5; replace hx197_0 := (cell_far (p := ⟨gb196, 0, none⟩) (by first | (rw [add_block]; exact hn197_0) | (show (Addr.add _ _).block ≠ _; rw [add_block]; exact hn197_0) | exact hn197_0) (.int .u64 ((rd_T25 l0 x17_1).f0))).trans hx197_0; replace hx197_1 := (cell_far (p := ⟨gb196, 0, none⟩) (by first | (rw [add_block]; exact hn197_0) | (show (Addr.add _ _).block ≠ _; rw [add_block]; exact hn197_0) | exact hn197_0) (.int .u64 ((rd_T25 l0 x17_1).f0))).trans hx197_1; replace hx197_2 := (cell_far (p := ⟨gb196, 0, none⟩) (by first | (rw [add_block]; exact hn197_0) | (show (Addr.add _ _).block ≠ _; rw [add_block]; exact hn197_0) | exact hn197_0) (.int .u64 ((rd_T25 l0 x17_1).f0))).trans hx197_2; replace hx197_3 := (cell_far (p := ⟨gb196, 0, none⟩) (by first | (rw [add_block]; exact hn197_0) | (show (Addr.add _ _).block ≠ _; rw [add_block]; exact hn197_0) | exact hn197_0) (.int .u64 ((rd_T25 l0 x17_1).f0))).trans hx197_3; replace hx197_4 := (cell_far (p := ⟨gb196, 0, none⟩) (by first | (rw [add_block]; exact hn197_0) | (show (Addr.add _ _).block ≠ _; rw [add_block]; exact hn197_0) | exact hn197_0) (.int .u64 ((rd_T25 l0 x17_1).f0))).trans hx197_4; replace hx197_5 := (cell_far (p := ⟨gb196, 0, none⟩) (by first | (rw [add_block]; exact hn197_0) | (show (Addr.add _ _).block ≠ _; rw [add_block]; exact hn197_0) | exact hn197_0) (.int .u64 ((rd_T25 l0 x17_1).f0))).trans hx197_5; replace hx197_6 := (cell_far (p := ⟨gb196, 0, none⟩) (by first | (rw [add_block]; exact hn197_0) | (show (Addr.add _ _).block ≠ _; rw [add_block]; exact hn197_0) | exact hn197_0) (.int .u64 ((rd_T25 l0 x17_1).f0))).trans hx197_6; replace hx197_0 := (cell_far (p := ⟨gb196, 1, none⟩) (by first | (rw [add_block]; exact hn197_1) | (show (Addr.add _ _).block ≠ _; rw [add_block]; exact hn197_1) | exact hn197_1) (.int .u64 ((rd_T25 l0 x17_1).f1))).trans hx197_0; replace hx197_1 := (cell_far (p := ⟨gb196, 1, none⟩) (by first | (rw [add_block]; exact hn197_1) | (show (Addr.add _ _).block ≠ _; rw [add_block]; exact hn197_1) | exact hn197_1) (.int .u64 ((rd_T25 l0 x17_1).f1))).trans hx197_1; replace hx197_2 := (cell_far (p := ⟨gb196, 1, none⟩) (by first | (rw [add_block]; exact hn197_1) | (show (Addr.add _ _).block ≠ _; rw [add_block]; exact hn197_1) | exact hn197_1) (.int .u64 ((rd_T25 l0 x17_1).f1))).trans hx197_2; replace hx197_3 := (cell_far (p := ⟨gb196, 1, none⟩) (by first | (rw [add_block]; exact hn197_1) | (show (Addr.add _ _).block ≠ _; rw [add_block]; exact hn197_1) | exact hn197_1) (.int .u64 ((rd_T25 l0 x17_1).f1))).trans hx197_3; replace hx197_4 := (cell_far (p := ⟨gb196, 1, none⟩) (by first | (rw [add_block]; exact hn197_1) | (show (Addr.add _ _).block ≠ _; rw [add_block]; exact hn197_1) | exact hn197_1) (.int .u64 ((rd_T25 l0 x17_1).f1))).trans hx197_4; replace hx197_5 := (cell_far (p := ⟨gb196, 1, none⟩) (by first | (rw [add_block]; exact hn197_1) | (show (Addr.add _ _).block ≠ _; rw [add_block]; exact hn197_1) | exact hn197_1) (.int .u64 ((rd_T25 l0 x17_1).f1))).trans hx197_5; replace hx197_6 := (cell_far (p := ⟨gb196, 1, none⟩) (by first | (rw [add_block]; exact hn197_1) | (show (Addr.add _ _).block ≠ _; rw [add_block]; exact hn197_1) | exact hn197_1) (.int .u64 ((rd_T25 l0 x17_1).f1))).trans hx197_6; replace hx197_0 := (cell_far (p := ⟨gb196, 2, none⟩) (by first | (rw [add_block]; exact hn197_2) | (show (Addr.add _ _).block ≠ _; rw [add_block]; exact hn197_2) | exact hn197_2) (.int .u64 ((rd_T25 l0 x17_1).f2))).trans hx197_0; replace hx197_1 := (cell_far (p := ⟨gb196, 2, none⟩) (by first | (rw [add_block]; exact hn197_2) | (show (Addr.add _ _).block ≠ _; rw [add_block]; exact hn197_2) | exact hn197_2) (.int .u64 ((rd_T25 l0 x17_1).f2))).trans hx197_1; replace hx197_2 := (cell_far (p := ⟨gb196, 2, none⟩) (by first | (rw [add_block]; exact hn197_2) | (show (Addr.add _ _).block ≠ _; rw [add_block]; exact hn197_2) | exact hn197_2) (.int .u64 ((rd_T25 l0 x17_1).f2))).trans hx197_2; replace hx197_3 := (cell_far (p := ⟨gb196, 2, none⟩) (by first | (rw [add_block]; exact hn197_2) | (show (Addr.add _ _).block ≠ _; rw [add_block]; exact hn197_2) | exact hn197_2) (.int .u64 ((rd_T25 l0 x17_1).f2))).trans hx197_3; replace hx197_4 := (cell_far (p := ⟨gb196, 2, none⟩) (by first | (rw [add_block]; exact hn197_2) | (show (Addr.add _ _).block ≠ _; rw [add_block]; exact hn197_2) | exact hn197_2) (.int .u64 ((rd_T25 l0 x17_1).f2))).trans hx197_4; replace hx197_5 := (cell_far (p := ⟨gb196, 2, none⟩) (by first | (rw [add_block]; exact hn197_2) | (show (Addr.add _ _).block ≠ _; rw [add_block]; exact hn197_2) | exact hn197_2) (.int .u64 ((rd_T25 l0 x17_1).f2))).trans hx197_5; replace hx197_6 := (cell_far (p := ⟨gb196, 2, none⟩) (by first | (rw [add_block]; exact hn197_2) | (show (Addr.add _ _).block ≠ _; rw [add_block]; exact hn197_2) | exact hn197_2) (.int .u64 ((rd_T25 l0 x17_1).f2))).trans hx197_6; replace hx197_0 := (cell_far (p := ⟨gb196, 3, none⟩) (by first | (rw [add_block]; exact hn197_3) | (show (Addr.add _ _).block ≠ _; rw [add_block]; exact hn197_3) | exact hn197_3) (.int .u64 ((rd_T25 l0 x17_1).f3))).trans hx197_0; replace hx197_1 := (cell_far (p := ⟨gb196, 3, none⟩) (by first | (rw [add_block]; exact hn197_3) | (show (Addr.add _ _).block ≠ _; rw [add_block]; exact hn197_3) | exact hn197_3) (.int .u64 ((rd_T25 l0 x17_1).f3))).trans hx197_1; replace hx197_2 := (cell_far (p := ⟨gb196, 3, none⟩) (by first | (rw [add_block]; exact hn197_3) | (show (Addr.add _ _).block ≠ _; rw [add_block]; exact hn197_3) | exact hn197_3) (.int .u64 ((rd_T25 l0 x17_1).f3))).trans hx197_2; replace hx197_3 := (cell_far (p := ⟨gb196, 3, none⟩) (by first | (rw [add_block]; exact hn197_3) | (show (Addr.add _ _).block ≠ _; rw [add_block]; exact hn197_3) | exact hn197_3) (.int .u64 ((rd_T25 l0 x17_1).f3))).trans hx197_3; replace hx197_4 := (cell_far (p := ⟨gb196, 3, none⟩) (by first | (rw [add_block]; exact hn197_3) | (show (Addr.add _ _).block ≠ _; rw [add_block]; exact hn197_3) | exact hn197_3) (.int .u64 ((rd_T25 l0 x17_1).f3))).trans hx197_4; replace hx197_5 := (cell_far (p := ⟨gb196, 3, none⟩) (by first | (rw [add_block]; exact hn197_3) | (show (Addr.add _ _).block ≠ _; rw [add_block]; exact hn197_3) | exact hn197_3) (.int .u64 ((rd_T25 l0 x17_1).f3))).trans hx197_5; replace hx197_6 := (cell_far (p := ⟨gb196, 3, none⟩) (by first | (rw [add_block]; exact hn197_3) | (show (Addr.add _ _).block ≠ _; rw [add_block]; exact hn197_3) | exact hn197_3) (.int .u64 ((rd_T25 l0 x17_1).f3))).trans hx197_6; replace hx197_0 := (cell_far (p := ⟨gb196, 4, none⟩) (by first | (rw [add_block]; exact hn197_4) | (show (Addr.add _ _).block ≠ _; rw [add_block]; exact hn197_4) | exact hn197_4) (.int .u64 ((rd_T25 l0 x17_1).f4))).trans hx197_0; replace hx197_1 := (cell_far (p := ⟨gb196, 4, none⟩) (by first | (rw [add_block]; exact hn197_4) | (show (Addr.add _ _).block ≠ _; rw [add_block]; exact hn197_4) | exact hn197_4) (.int .u64 ((rd_T25 l0 x17_1).f4))).trans hx197_1; replace hx197_2 := (cell_far (p := ⟨gb196, 4, none⟩) (by first | (rw [add_block]; exact hn197_4) | (show (Addr.add _ _).block ≠ _; rw [add_block]; exact hn197_4) | exact hn197_4) (.int .u64 ((rd_T25 l0 x17_1).f4))).trans hx197_2; replace hx197_3 := (cell_far (p := ⟨gb196, 4, none⟩) (by first | (rw [add_block]; exact hn197_4) | (show (Addr.add _ _).block ≠ _; rw [add_block]; exact hn197_4) | exact hn197_4) (.int .u64 ((rd_T25 l0 x17_1).f4))).trans hx197_3; replace hx197_4 := (cell_far (p := ⟨gb196, 4, none⟩) (by first | (rw [add_block]; exact hn197_4) | (show (Addr.add _ _).block ≠ _; rw [add_block]; exact hn197_4) | exact hn197_4) (.int .u64 ((rd_T25 l0 x17_1).f4))).trans hx197_4; replace hx197_5 := (cell_far (p := ⟨gb196, 4, none⟩) (by first | (rw [add_block]; exact hn197_4) | (show (Addr.add _ _).block ≠ _; rw [add_block]; exact hn197_4) | exact hn197_4) (.int .u64 ((rd_T25 l0 x17_1).f4))).trans hx197_5; replace hx197_6 := (cell_far (p := ⟨gb196, 4, none⟩) (by first | (rw [add_block]; exact hn197_4) | (show (Addr.add _ _).block ≠ _; rw [add_block]; exact hn197_4) | exact hn197_4) (.int .u64 ((rd_T25 l0 x17_1).f4))).trans hx197_6; replace hx197_0 := (cell_far (p := ⟨gb196, 5, none⟩) (by first | (rw [add_block]; exact hn197_5) | (show (Addr.add _ _).block ≠ _; rw [add_block]; exact hn197_5) | exact hn197_5) (.slice A195_5 ((rd_T25 l0 x17_1).f5).length c195_5)).trans hx197_0; replace hx197_1 := (cell_far (p := ⟨gb196, 5, none⟩) (by first | (rw [add_block]; exact hn197_5) | (show (Addr.add _ _).block ≠ _; rw [add_block]; exact hn197_5) | exact hn197_5) (.slice A195_5 ((rd_T25 l0 x17_1).f5).length c195_5)).trans hx197_1; replace hx197_2 := (cell_far (p := ⟨gb196, 5, none⟩) (by first | (rw [add_block]; exact hn197_5) | (show (Addr.add _ _).block ≠ _; rw [add_block]; exact hn197_5) | exact hn197_5) (.slice A195_5 ((rd_T25 l0 x17_1).f5).length c195_5)).trans hx197_2; replace hx197_3 := (cell_far (p := ⟨gb196, 5, none⟩) (by first | (rw [add_block]; exact hn197_5) | (show (Addr.add _ _).block ≠ _; rw [add_block]; exact hn197_5) | exact hn197_5) (.slice A195_5 ((rd_T25 l0 x17_1).f5).length c195_5)).trans hx197_3; replace hx197_4 := (cell_far (p := ⟨gb196, 5, none⟩) (by first | (rw [add_block]; exact hn197_5) | (show (Addr.add _ _).block ≠ _; rw [add_block]; exact hn197_5) | exact hn197_5) (.slice A195_5 ((rd_T25 l0 x17_1).f5).length c195_5)).trans hx197_4; replace hx197_5 := (cell_far (p := ⟨gb196, 5, none⟩) (by first | (rw [add_block]; exact hn197_5) | (show (Addr.add _ _).block ≠ _; rw [add_block]; exact hn197_5) | exact hn197_5) (.slice A195_5 ((rd_T25 l0 x17_1).f5).length c195_5)).trans hx197_5; replace hx197_6 := (cell_far (p := ⟨gb196, 5, none⟩) (by first | (rw [add_block]; exact hn197_5) | (show (Addr.add _ _).block ≠ _; rw [add_block]; exact hn197_5) | exact hn197_5) (.slice A195_5 ((rd_T25 l0 x17_1).f5).length c195_5)).trans hx197_6; replace hx197_0 := (cell_far (p := ⟨gb196, 6, none⟩) (by first | (rw [add_block]; exact hn197_6) | (show (Addr.add _ _).block ≠ _; rw [add_block]; exact hn197_6) | exact hn197_6) (.bool ((rd_T25 l0 x17_1).f6))).trans hx197_0; replace hx197_1 := (cell_far (p := ⟨gb196, 6, none⟩) (by first | (rw [add_block]; exact hn197_6) | (show (Addr.add _ _).block ≠ _; rw [add_block]; exact hn197_6) | exact hn197_6) (.bool ((rd_T25 l0 x17_1).f6))).trans hx197_1; replace hx197_2 := (cell_far (p := ⟨gb196, 6, none⟩) (by first | (rw [add_block]; exact hn197_6) | (show (Addr.add _ _).block ≠ _; rw [add_block]; exact hn197_6) | exact hn197_6) (.bool ((rd_T25 l0 x17_1).f6))).trans hx197_2; replace hx197_3 := (cell_far (p := ⟨gb196, 6, none⟩) (by first | (rw [add_block]; exact hn197_6) | (show (Addr.add _ _).block ≠ _; rw [add_block]; exact hn197_6) | exact hn197_6) (.bool ((rd_T25 l0 x17_1).f6))).trans hx197_3; replace hx197_4 := (cell_far (p := ⟨gb196, 6, none⟩) (by first | (rw [add_block]; exact hn197_6) | (show (Addr.add _ _).block ≠ _; rw [add_block]; exact hn197_6) | exact hn197_6) (.bool ((rd_T25 l0 x17_1).f6))).trans hx197_4; replace hx197_5 := (cell_far (p := ⟨gb196, 6, none⟩) (by first | (rw [add_block]; exact hn197_6) | (show (Addr.add _ _).block ≠ _; rw [add_block]; exact hn197_6) | exact hn197_6) (.bool ((rd_T25 l0 x17_1).f6))).trans hx197_5; replace hx197_6 := (cell_far (p := ⟨gb196, 6, none⟩) (by first | (rw [add_block]; exact hn197_6) | (show (Addr.add _ _).block ≠ _; rw [add_block]; exact hn197_6) | exact hn197_6) (.bool ((rd_T25 l0 x17_1).f6))).trans hx197_6; clear hn197_0; clear hn197_1; clear hn197_2; clear hn197_3; clear hn197_4; clear hn197_5; clear hn197_6; replace p197 := eq_true p197; replace q197 := eq_true q197) | ((with_reducible refine gate_dst (N := 9) rfl ?_); refine box_event ?hg (N := 9) ?hd (cs := #[.int .u64 0, .int .u64 0, .int .u64 0, .int .u64 0, .int .u64 0, .slice none 0 0, .bool false]) (t := 25) ?hr ?_; (case hd => rfl); (case hg => rfl); (case hr => first | (go_simp; done) | (go_simp; rfl)); intro gb198 hg w20 hbox hb; have n0_ := Aside0.mk (blk_below (g := gb196) (o := .cells #[.int .u64 ((rd_T25 l0 x17_1).f0), .int .u64 ((rd_T25 l0 x17_1).f1), .int .u64 ((rd_T25 l0 x17_1).f2), .int .u64 ((rd_T25 l0 x17_1).f3), .int .u64 ((rd_T25 l0 x17_1).f4), .slice A195_5 ((rd_T25 l0 x17_1).f5).length c195_5, .bool ((rd_T25 l0 x17_1).f6)] 25 (0, 0)) (by (with_reducible repeat (first | refine blk_drewN ?_ _ | refine blk_drew ?_ | refine blk_alloc ?_ _)); refine blk_put (cs := #[.int .u64 ((rd_T25 l0 x17_1).f0), .int .u64 ((rd_T25 l0 x17_1).f1), .int .u64 ((rd_T25 l0 x17_1).f2), .int .u64 ((rd_T25 l0 x17_1).f3), .int .u64 ((rd_T25 l0 x17_1).f4), .slice A195_5 ((rd_T25 l0 x17_1).f5).length c195_5, .bool false]) ?_ 6 _ rfl; refine blk_put (cs := #[.int .u64 ((rd_T25 l0 x17_1).f0), .int .u64 ((rd_T25 l0 x17_1).f1), .int .u64 ((rd_T25 l0 x17_1).f2), .int .u64 ((rd_T25 l0 x17_1).f3), .int .u64 ((rd_T25 l0 x17_1).f4), .slice none 0 0, .bool false]) ?_ 5 _ rfl; refine blk_put (cs := #[.int .u64 ((rd_T25 l0 x17_1).f0), .int .u64 ((rd_T25 l0 x17_1).f1), .int .u64 ((rd_T25 l0 x17_1).f2), .int .u64 ((rd_T25 l0 x17_1).f3), .int .u64 0, .slice none 0 0, .bool false]) ?_ 4 _ rfl; refine blk_put (cs := #[.int .u64 ((rd_T25 l0 x17_1).f0), .int .u64 ((rd_T25 l0 x17_1).f1), .int .u64 ((rd_T25 l0 x17_1).f2), .int .u64 0, .int .u64 0, .slice none 0 0, .bool false]) ?_ 3 _ rfl; refine blk_put (cs := #[.int .u64 ((rd_T25 l0 x17_1).f0), .int .u64 ((rd_T25 l0 x17_1).f1), .int .u64 0, .int .u64 0, .int .u64 0, .slice none 0 0, .bool false]) ?_ 2 _ rfl; refine blk_put (cs := #[.int .u64 ((rd_T25 l0 x17_1).f0), .int .u64 0, .int .u64 0, .int .u64 0, .int .u64 0, .slice none 0 0, .bool false]) ?_ 1 _ rfl; refine blk_put (cs := #[.int .u64 0, .int .u64 0, .int .u64 0, .int .u64 0, .int .u64 0, .slice none 0 0, .bool false]) ?_ 0 _ rfl; (with_reducible repeat (first | refine blk_drewN ?_ _ | refine blk_drew ?_ | refine blk_alloc ?_ _)); exact BK196.out) hb); have n1_ := Aside0.mk (below_step (belN HB) hb); have n2_ := Aside0.mk (hbox); have n3_ := Aside0.mk ((by rw [hg]; exact (below_size (belN HB)) : w.heap.size ≤ gb198)); have n4_ := Aside0.mk ((by rw [hg]; exact (below_size (belN HB)) : w.heap.size ≤ gb198)); have n5_ := Aside0.mk ((by rw [hg]; exact Nat.ne_of_lt (blk_lt (g := gb196) (o := .cells #[.int .u64 ((rd_T25 l0 x17_1).f0), .int .u64 ((rd_T25 l0 x17_1).f1), .int .u64 ((rd_T25 l0 x17_1).f2), .int .u64 ((rd_T25 l0 x17_1).f3), .int .u64 ((rd_T25 l0 x17_1).f4), .slice A195_5 ((rd_T25 l0 x17_1).f5).length c195_5, .bool ((rd_T25 l0 x17_1).f6)] 25 (0, 0)) (by (with_reducible repeat (first | refine blk_drewN ?_ _ | refine blk_drew ?_ | refine blk_alloc ?_ _)); refine blk_put (cs := #[.int .u64 ((rd_T25 l0 x17_1).f0), .int .u64 ((rd_T25 l0 x17_1).f1), .int .u64 ((rd_T25 l0 x17_1).f2), .int .u64 ((rd_T25 l0 x17_1).f3), .int .u64 ((rd_T25 l0 x17_1).f4), .slice A195_5 ((rd_T25 l0 x17_1).f5).length c195_5, .bool false]) ?_ 6 _ rfl; refine blk_put (cs := #[.int .u64 ((rd_T25 l0 x17_1).f0), .int .u64 ((rd_T25 l0 x17_1).f1), .int .u64 ((rd_T25 l0 x17_1).f2), .int .u64 ((rd_T25 l0 x17_1).f3), .int .u64 ((rd_T25 l0 x17_1).f4), .slice none 0 0, .bool false]) ?_ 5 _ rfl; refine blk_put (cs := #[.int .u64 ((rd_T25 l0 x17_1).f0), .int .u64 ((rd_T25 l0 x17_1).f1), .int .u64 ((rd_T25 l0 x17_1).f2), .int .u64 ((rd_T25 l0 x17_1).f3), .int .u64 0, .slice none 0 0, .bool false]) ?_ 4 _ rfl; refine blk_put (cs := #[.int .u64 ((rd_T25 l0 x17_1).f0), .int .u64 ((rd_T25 l0 x17_1).f1), .int .u64 ((rd_T25 l0 x17_1).f2), .int .u64 0, .int .u64 0, .slice none 0 0, .bool false]) ?_ 3 _ rfl; refine blk_put (cs := #[.int .u64 ((rd_T25 l0 x17_1).f0), .int .u64 ((rd_T25 l0 x17_1).f1), .int .u64 0, .int .u64 0, .int .u64 0, .slice none 0 0, .bool false]) ?_ 2 _ rfl; refine blk_put (cs := #[.int .u64 ((rd_T25 l0 x17_1).f0), .int .u64 0, .int .u64 0, .int .u64 0, .int .u64 0, .slice none 0 0, .bool false]) ?_ 1 _ rfl; refine blk_put (cs := #[.int .u64 0, .int .u64 0, .int .u64 0, .int .u64 0, .int .u64 0, .slice none 0 0, .bool false]) ?_ 0 _ rfl; (with_reducible repeat (first | refine blk_drewN ?_ _ | refine blk_drew ?_ | refine blk_alloc ?_ _)); exact BK196.out)) : gb196 ≠ gb198)); have n6_ := Aside0.mk ((by rw [hg]; exact Nat.ne_of_gt (blk_lt (g := gb196) (o := .cells #[.int .u64 ((rd_T25 l0 x17_1).f0), .int .u64 ((rd_T25 l0 x17_1).f1), .int .u64 ((rd_T25 l0 x17_1).f2), .int .u64 ((rd_T25 l0 x17_1).f3), .int .u64 ((rd_T25 l0 x17_1).f4), .slice A195_5 ((rd_T25 l0 x17_1).f5).length c195_5, .bool ((rd_T25 l0 x17_1).f6)] 25 (0, 0)) (by (with_reducible repeat (first | refine blk_drewN ?_ _ | refine blk_drew ?_ | refine blk_alloc ?_ _)); refine blk_put (cs := #[.int .u64 ((rd_T25 l0 x17_1).f0), .int .u64 ((rd_T25 l0 x17_1).f1), .int .u64 ((rd_T25 l0 x17_1).f2), .int .u64 ((rd_T25 l0 x17_1).f3), .int .u64 ((rd_T25 l0 x17_1).f4), .slice A195_5 ((rd_T25 l0 x17_1).f5).length c195_5, .bool false]) ?_ 6 _ rfl; refine blk_put (cs := #[.int .u64 ((rd_T25 l0 x17_1).f0), .int .u64 ((rd_T25 l0 x17_1).f1), .int .u64 ((rd_T25 l0 x17_1).f2), .int .u64 ((rd_T25 l0 x17_1).f3), .int .u64 ((rd_T25 l0 x17_1).f4), .slice none 0 0, .bool false]) ?_ 5 _ rfl; refine blk_put (cs := #[.int .u64 ((rd_T25 l0 x17_1).f0), .int .u64 ((rd_T25 l0 x17_1).f1), .int .u64 ((rd_T25 l0 x17_1).f2), .int .u64 ((rd_T25 l0 x17_1).f3), .int .u64 0, .slice none 0 0, .bool false]) ?_ 4 _ rfl; refine blk_put (cs := #[.int .u64 ((rd_T25 l0 x17_1).f0), .int .u64 ((rd_T25 l0 x17_1).f1), .int .u64 ((rd_T25 l0 x17_1).f2), .int .u64 0, .int .u64 0, .slice none 0 0, .bool false]) ?_ 3 _ rfl; refine blk_put (cs := #[.int .u64 ((rd_T25 l0 x17_1).f0), .int .u64 ((rd_T25 l0 x17_1).f1), .int .u64 0, .int .u64 0, .int .u64 0, .slice none 0 0, .bool false]) ?_ 2 _ rfl; refine blk_put (cs := #[.int .u64 ((rd_T25 l0 x17_1).f0), .int .u64 0, .int .u64 0, .int .u64 0, .int .u64 0, .slice none 0 0, .bool false]) ?_ 1 _ rfl; refine blk_put (cs := #[.int .u64 0, .int .u64 0, .int .u64 0, .int .u64 0, .int .u64 0, .slice none 0 0, .bool false]) ?_ 0 _ rfl; (with_reducible repeat (first | refine blk_drewN ?_ _ | refine blk_drew ?_ | refine blk_alloc ?_ _)); exact BK196.out)) : gb198 ≠ gb196)); clear BK196; clear HB; have BK196 := n0_; have HB := n1_; have BK198 := n2_; have GW198 := n3_; have GE198 := n4_; have NB196_198 := n5_; have NB198_196 := n6_; clear n0_ n1_ n2_ n3_ n4_ n5_ n6_; clear hb hbox hg; have hnb21 := NB198_196.out; have hnc21 := NB196_198.out; obtain ⟨hcz22_0, hcz22_1, hcz22_2, hcz22_3, hcz22_4, hcz22_5, hcz22_6, hfz22_0, hfz22_1, hfz22_2, hfz22_3, hfz22_4, hfz22_5, hfz22_6⟩ := cz7_ (w := w20) BK198.out; obtain ⟨hcz23_0, hcz23_1, hcz23_2, hcz23_3, hcz23_4, hcz23_5, hcz23_6, hfz23_0, hfz23_1, hfz23_2, hfz23_3, hfz23_4, hfz23_5, hfz23_6⟩ := cz7_ (w := w20) BK196.out) | ((with_reducible refine gate_tmp (t_ := 26) rfl ?_); refine goesT_ (some 29) rfl rfl Try.func26 (by kernel_rfl) rfl #[.agg #[.int .u64 ((rd_T25 l0 x17_1).f0), .int .u64 ((rd_T25 l0 x17_1).f1), .int .u64 ((rd_T25 l0 x17_1).f2), .int .u64 ((rd_T25 l0 x17_1).f3), .int .u64 ((rd_T25 l0 x17_1).f4), .slice A195_5 ((rd_T25 l0 x17_1).f5).length c195_5, .bool ((rd_T25 l0 x17_1).f6)], .agg #[.int .u64 ((rd_T25 l1 x17_1).f0), .int .u64 ((rd_T25 l1 x17_1).f1), .int .u64 ((rd_T25 l1 x17_1).f2), .int .u64 ((rd_T25 l1 x17_1).f3), .int .u64 ((rd_T25 l1 x17_1).f4), .slice A197_5 ((rd_T25 l1 x17_1).f5).length c197_5, .bool ((rd_T25 l1 x17_1).f6)]] rfl rfl (by (try simp only [List.map_toArray, List.map_cons, List.map_nil]); first | done | rfl | (simp only [List.length_drop, List.length_take]; rfl)) ?_; (with_reducible refine (channel_Same.calls k1 ((rd_T25 l0 x17_1).f0) ((rd_T25 l0 x17_1).f1) ((rd_T25 l0 x17_1).f2) ((rd_T25 l0 x17_1).f3) ((rd_T25 l0 x17_1).f4) _ _ ((rd_T25 l0 x17_1).f5) ((rd_T25 l0 x17_1).f6) ((rd_T25 l1 x17_1).f0) ((rd_T25 l1 x17_1).f1) ((rd_T25 l1 x17_1).f2) ((rd_T25 l1 x17_1).f3) ((rd_T25 l1 x17_1).f4) _ _ ((rd_T25 l1 x17_1).f5) ((rd_T25 l1 x17_1).f6) false _ ?side1 ?side2 ?side3 ?side4 A9.out).mono ?_); (case side1 => exact Kd.C_below HR195_5.out (belN HB)); (case side2 => exact HC195_5.out); (case side3 => exact Kd.C_below HR197_5.out (belN HB)); (case side4 => exact HC197_5.out); rintro e w24 ⟨rfl, hb⟩; refine ⟨_, rfl, ?_⟩; have n0_ := Aside0.mk (blk_below (g := gb196) (blkF BK196) hb); have n1_ := Aside0.mk (blk_below (g := gb198) (o := .cells #[.int .u64 ((rd_T25 l1 x17_1).f0), .int .u64 ((rd_T25 l1 x17_1).f1), .int .u64 ((rd_T25 l1 x17_1).f2), .int .u64 ((rd_T25 l1 x17_1).f3), .int .u64 ((rd_T25 l1 x17_1).f4), .slice A197_5 ((rd_T25 l1 x17_1).f5).length c197_5, .bool ((rd_T25 l1 x17_1).f6)] 25 (0, 0)) (by (with_reducible repeat (first | refine blk_drewN ?_ _ | refine blk_drew ?_ | refine blk_alloc ?_ _)); refine blk_put (cs := #[.int .u64 ((rd_T25 l1 x17_1).f0), .int .u64 ((rd_T25 l1 x17_1).f1), .int .u64 ((rd_T25 l1 x17_1).f2), .int .u64 ((rd_T25 l1 x17_1).f3), .int .u64 ((rd_T25 l1 x17_1).f4), .slice A197_5 ((rd_T25 l1 x17_1).f5).length c197_5, .bool false]) ?_ 6 _ rfl; refine blk_put (cs := #[.int .u64 ((rd_T25 l1 x17_1).f0), .int .u64 ((rd_T25 l1 x17_1).f1), .int .u64 ((rd_T25 l1 x17_1).f2), .int .u64 ((rd_T25 l1 x17_1).f3), .int .u64 ((rd_T25 l1 x17_1).f4), .slice none 0 0, .bool false]) ?_ 5 _ rfl; refine blk_put (cs := #[.int .u64 ((rd_T25 l1 x17_1).f0), .int .u64 ((rd_T25 l1 x17_1).f1), .int .u64 ((rd_T25 l1 x17_1).f2), .int .u64 ((rd_T25 l1 x17_1).f3), .int .u64 0, .slice none 0 0, .bool false]) ?_ 4 _ rfl; refine blk_put (cs := #[.int .u64 ((rd_T25 l1 x17_1).f0), .int .u64 ((rd_T25 l1 x17_1).f1), .int .u64 ((rd_T25 l1 x17_1).f2), .int .u64 0, .int .u64 0, .slice none 0 0, .bool false]) ?_ 3 _ rfl; refine blk_put (cs := #[.int .u64 ((rd_T25 l1 x17_1).f0), .int .u64 ((rd_T25 l1 x17_1).f1), .int .u64 0, .int .u64 0, .int .u64 0, .slice none 0 0, .bool false]) ?_ 2 _ rfl; refine blk_put (cs := #[.int .u64 ((rd_T25 l1 x17_1).f0), .int .u64 0, .int .u64 0, .int .u64 0, .int .u64 0, .slice none 0 0, .bool false]) ?_ 1 _ rfl; refine blk_put (cs := #[.int .u64 0, .int .u64 0, .int .u64 0, .int .u64 0, .int .u64 0, .slice none 0 0, .bool false]) ?_ 0 _ rfl; (with_reducible repeat (first | refine blk_drewN ?_ _ | refine blk_drew ?_ | refine blk_alloc ?_ _)); exact BK198.out) hb); have n2_ := Aside0.mk (below_step (belN HB) hb); clear BK196; clear BK198; clear HB; have BK196 := n0_; have BK198 := n1_; have HB := n2_; clear n0_ n1_ n2_; (try clear hb); (try clear hb2); (try clear hk); (try clear hi)))
         go_ret
         exact ⟨by first | rfl | (simp [errW_none, errW_some] <;> rfl) | (simp [*, errW_none, errW_some] <;> rfl), by repeat (first | (with_reducible first | exact HB.out | apply below_alloc | apply pw_below_drewN | apply below_drew1 | refine below_set ?_ GE196.out | refine below_set ?_ GE198.out) | exact HB.out)⟩
       ·rw [if_neg c8] at H
        exact absurd H (by simp)
      ·rw [if_neg c7] at H
       exact absurd H (by simp)
     ·rw [if_neg c6] at H
      exact absurd H (by simp)
    ·rw [if_neg c5] at H
     have c5b0 : decide (x17_1 < (l0.length : Int)) = false := decide_eq_false c5
     clear c5
     obtain rfl := Option.some.inj H
     go_wp2
     go_ret
     exact ⟨by first | rfl | (simp [errW_none, errW_some] <;> rfl) | (simp [*, errW_none, errW_some] <;> rfl), by repeat (first | (with_reducible first | exact HB.out | apply below_alloc | apply pw_below_drewN | apply below_drew1) | exact HB.out)⟩
 ·rw [if_neg c4] at H
  have c4b0 : ((l0.length : Int) == (l1.length : Int)) = false := beq_eq_false_iff_ne.mpr c4
  have c4b1 : ((l0.length : Int) != (l1.length : Int)) = true := bne_iff_ne.mpr c4
  have c4b2 : (l0.length == l1.length) = false := by first | simpa using c4 | (simp at c4 ⊢; omega)
  obtain rfl := Option.some.inj H
  go_enter Try.func105, Try.ntmps105
  go_wp2
  go_ret
  exact ⟨by first | rfl | (simp [errW_none, errW_some] <;> rfl) | (simp [*, errW_none, errW_some] <;> rfl), by repeat (first | (with_reducible first | exact HB.out | apply below_alloc | apply pw_below_drewN | apply below_drew1) | exact HB.out)⟩

/-! ### ledger_Same: function 48 -/
def ledger_Same.f (k : Nat) (l0 : List (S25)) (l1 : List (S25)) : Option (Bool) := (slices_EqualFunc_Channel_at_channel_Same.f k l0 l1).bind fun t200 => (some t200)
theorem ledger_Same.mono : ∀ a0 a1 k, LeO (ledger_Same.f k a0 a1) (ledger_Same.f (k + 1) a0 a1) := by
  intro a0 a1 k
  unfold ledger_Same.f
  repeat' first
      | (with_reducible exact slices_EqualFunc_Channel_at_channel_Same.mono _ _ _)
      | (with_reducible exact LeO.refl _)
      | (with_reducible exact LeO.none _)
      | (with_reducible refine LeO.ite ?_ ?_)
      | (with_reducible refine LeO.bind ?_ (fun _ => ?_))
      | exact slices_EqualFunc_Channel_at_channel_Same.mono _ _ _
      | exact LeO.none _
      | refine LeO.ite ?_ ?_
      | refine LeO.bind ?_ (fun _ => ?_)
set_option maxHeartbeats 8000000 in
set_option maxRecDepth 100000 in
theorem ledger_Same.calls (k : Nat) (A0 : Option Addr) (c0 : Nat) (l0 : List (S25)) (A1 : Option Addr) (c1 : Nat) (l1 : List (S25)) (r : Bool) (w : World) (hr0 : Kd.C k25 w A0 l0.length l0) (hc0 : l0.length ≤ c0) (hr1 : Kd.C k25 w A1 l1.length l1) (hc1 : l1.length ≤ c1) (h : ledger_Same.f k l0 l1 = some r) :
    Calls Try.prog 48 #[.slice A0 l0.length c0, .slice A1 l1.length c1] w fun e w' => e = .returned (.bool r) ∧ Below w.heap.size w w' := by
  have HR0 := Aside0.mk hr0
  have HC0 := Aside0.mk hc0
  clear hr0 hc0
  have HR1 := Aside0.mk hr1
  have HC1 := Aside0.mk hc1
  clear hr1 hc1
  have HB := Aside0.mk (Below.refl w.heap.size w)
  have H : ((slices_EqualFunc_Channel_at_channel_Same.f k l0 l1).bind fun t200 => (some t200)) = some r := h
  clear h
  replace H := Option.bind_eq_some_iff.mp H
  obtain ⟨t200, A30, H⟩ := H
  replace H : (some t200) = some r := H
  have A3 := Aside0.mk A30
  clear A30
  obtain rfl := Option.some.inj H
  go_enter Try.func48, Try.ntmps48
  go_wp2_with (first | ((with_reducible refine gate_callee (f := 105) rfl ?_); refine goesL_ (some 7) rfl rfl Try.func105 (by kernel_rfl) rfl #[.slice A0 l0.length c0, .slice A1 l1.length c1, .func (.func 26) #[] #[]] rfl (by (try simp only [List.map_toArray, List.map_cons, List.map_nil]); first | done | rfl | (simp only [List.length_drop, List.length_take]; rfl)) ?_; (with_reducible refine (slices_EqualFunc_Channel_at_channel_Same.calls k _ _ l0 _ _ l1  t200 _ ?side1 ?side2 ?side3 ?side4 A3.out).mono ?_); (case side1 => repeat (first | exact HR0.out | (with_reducible refine Kd.C_alloc ?_ _) | (with_reducible refine Kd.C_drewN ?_ _) | (with_reducible refine Kd.C_drew ?_))); (case side2 => exact HC0.out); (case side3 => repeat (first | exact HR1.out | (with_reducible refine Kd.C_alloc ?_ _) | (with_reducible refine Kd.C_drewN ?_ _) | (with_reducible refine Kd.C_drew ?_))); (case side4 => exact HC1.out); rintro e w4 ⟨rfl, hb⟩; refine ⟨_, rfl, ?_⟩; have n0_ := Aside0.mk (below_step (belN HB) hb); clear HB; have HB := n0_; clear n0_; (try clear hb); (try clear hb2); (try clear hk); (try clear hi)))
  go_ret
  exact ⟨by first | rfl | (simp [errW_none, errW_some] <;> rfl) | (simp [*, errW_none, errW_some] <;> rfl), by repeat (first | (with_reducible first | exact HB.out | apply below_alloc | apply pw_below_drewN | apply below_drew1) | exact HB.out)⟩

end Go.Proofs.Ytcfbcoinbecdfaa.P
