-- written by a program of this session (wip/print)
import Derived.Test.YtcfbcoinbecdfaaQLkeepsx0
import Derived.Test.YtcfbcoinbecdfaaQLkeepsx3
import Derived.Test.YtcfbcoinbecdfaaQLkeepsx4
import Derived.Test.YtcfbcoinbecdfaaQLkeepsx5
import Derived.Test.YtcfbcoinbecdfaaQLkeepsx6
namespace Go.Proofs.Ytcfbcoinbecdfaa.P
open Go.RowKit Go.Proofs.YtcfbcoinbecdfaaW.PrintWords Go.Proofs.YtcfbcoinbecdfaaW.PrintLast Go.Proofs.YtcfbcoinbecdfaaW.PrintMore
attribute [local go_sem] max2_int min2_int max_two min_two max_three min_three max_four min_four run_sub64_   -- for this text's walks alone
set_option linter.unusedVariables false
set_option linter.unusedSimpArgs false

/-! ### ledger_change: function 110 (by hand) -/
def ledger_change.g (k : Nat) (l : List S25) (id : Int) (how : S25 → Option (S25 × Int)) : Option (List S25 × Int) := (ledger_place.f k l id).bind fun p => if p.2 = 0 then (if 0 ≤ p.1 ∧ p.1 < (l.length : Int) then (how (rd_T25 l p.1)).bind fun q => if q.2 = 0 then (ledger_owns.f l).bind fun m => some (m.set p.1.toNat q.1, 0) else some ([], q.2) else none) else some ([], p.2)
/-- What a function handed to change does at a channel. -/
def HowAt (w : World) (n : FuncId) (caps : List Value) (how : S25 → Option (S25 × Int)) : Prop := ∀ (c : S25) (A1 : Option Addr) (c1 : Nat) (c2 : S25) (e2 : Int) (w1 : World), Below w.heap.size w w1 → Kd.C k44 w1 A1 c.f5.length c.f5 → c.f5.length ≤ c1 → how c = some (c2, e2) → Calls Try.prog n (#[.agg #[.int .u64 c.f0, .int .u64 c.f1, .int .u64 c.f2, .int .u64 c.f3, .int .u64 c.f4, .slice A1 c.f5.length c1, .bool c.f6]] ++ caps.toArray) w1 fun e w2 => ∃ A6 c6, e = .returned (.tuple #[.agg #[.int .u64 c2.f0, .int .u64 c2.f1, .int .u64 c2.f2, .int .u64 c2.f3, .int .u64 c2.f4, .slice A6 c2.f5.length c6, .bool c2.f6], .int .i64 e2]) ∧ (e2 = 0 → Ch w2 w1.heap.size c2 [.int .u64 c2.f0, .int .u64 c2.f1, .int .u64 c2.f2, .int .u64 c2.f3, .int .u64 c2.f4, .slice A6 c2.f5.length c6, .bool c2.f6]) ∧ Below w1.heap.size w1 w2
theorem Rows25.set {w w1 : World} {B i g : Nat} {l : List S25} {rows : List (List Value)} {c2 : S25} {cs : List Value} {cur : Array Value} (h : Rows25 w B l rows) (hn : Ch w B c2 cs) (hg : w.grownBy w1 (some g)) (hc : w.heap[g]? = some (.cells cur 25 (0, 0))) : Rows25 w1 B (l.set i c2) (rows.set i cs) := by
  intro j y hj
  by_cases e : j = i
  · subst e
    have hjl : j < l.length := by have := (List.getElem?_eq_some_iff.1 hj).1; rwa [List.length_set] at this
    rw [List.getElem?_set_self hjl] at hj
    injection hj with hj
    subst hj
    obtain ⟨c0, q1, _⟩ := h j _ (List.getElem?_eq_getElem hjl)
    exact ⟨cs, List.getElem?_set_self (List.getElem?_eq_some_iff.1 q1).1, hn.grown hg hc⟩
  · rw [List.getElem?_set_ne (by omega)] at hj
    obtain ⟨c0, q1, q2⟩ := h j y hj
    exact ⟨c0, by rw [List.getElem?_set_ne (by omega)]; exact q1, q2.grown hg hc⟩
set_option maxHeartbeats 16000000 in
set_option maxRecDepth 100000 in
theorem ledger_change.callsS_111 (k : Nat) (A0 : Option Addr) (c0 : Nat) (l : List S25) (id : Int) (p1 : Value) (p2 : Value) (p3 : Value) (how : S25 → Option (S25 × Int)) (r : List S25) (er : Int) (w : World) (hr0 : Kd.C k25 w A0 l.length l) (hc0 : l.length ≤ c0) (hw : HowAt w 111 [p1, p2, p3] how) (h : ledger_change.g k l id how = some (r, er)) :
    Calls Try.prog 110 #[.slice A0 l.length c0, .int .u64 id, .func (.func 111) #[] #[p1, p2, p3]] w fun e w' => ∃ v : Value, e = .returned (.tuple #[v, .int .i64 er]) ∧ Own25 w' w.heap.size v r ∧ Below w.heap.size w w' := by
  have HR0 := Aside0.mk hr0
  have HC0 := Aside0.mk hc0
  have HW := Aside0.mk hw
  clear hr0 hc0 hw
  have HB := Aside0.mk (Below.refl w.heap.size w)
  unfold ledger_change.g at h
  obtain ⟨⟨pi, pe⟩, h1, h_⟩ := Option.bind_eq_some_iff.mp h
  replace h := h_
  clear h_
  have HF1 := Aside0.mk h1
  clear h1
  dsimp only at h
  by_cases hpe : pe = 0
  case neg =>
    rw [if_neg hpe] at h
    have hpeb : (pe != 0) = true := bne_iff_ne.mpr hpe
    clear hpe
    injection h with h
    injection h with hh1 hh2
    subst hh1 hh2
    go_enter Try.func110, Try.ntmps110
    go_wp2_with (go_at_call 104; refine (ledger_place.calls k A0 c0 l id pi pe _ HR0.out HC0.out HF1.out).mono ?_; rintro e w1 ⟨rfl, hb⟩; clear HF1; replace HB := Aside0.mk (below_then HB.out HB.out.size hb);  clear hb)
    go_ret2
    exact ⟨_, rfl, Own25.nil _ _, HB.out⟩
  subst hpe
  rw [if_pos rfl] at h
  by_cases hpi : 0 ≤ pi ∧ pi < (l.length : Int)
  case neg => rw [if_neg hpi] at h; cases h
  rw [if_pos hpi] at h
  obtain ⟨hp0, hp1⟩ := hpi
  obtain ⟨i, rfl⟩ := Int.eq_ofNat_of_zero_le hp0
  have hi : i < l.length := by omega
  obtain ⟨ad, A5, c5, ea, hx0, hx1, hx2, hx3, hx4, hx5, hx6, hl5, hi5⟩ := at_T25 HR0.out (i : Int) (by omega) (by omega)
  subst ea
  obtain ⟨c, hc⟩ : ∃ c, c = rd_T25 l (i : Int) := ⟨_, rfl⟩
  rw [← hc] at h
  simp only [← hc, Int.toNat_natCast] at hx0 hx1 hx2 hx3 hx4 hx5 hx6 hl5 hi5
  have HL5 := Aside0.mk hl5
  have HI5 := Aside0.mk hi5
  clear hl5 hi5 hc
  obtain ⟨⟨c2, e2⟩, h1, h_⟩ := Option.bind_eq_some_iff.mp h
  replace h := h_
  clear h_
  have HF2 := Aside0.mk h1
  clear h1
  dsimp only at h
  by_cases he2 : e2 = 0
  case neg =>
    rw [if_neg he2] at h
    have he2b : (e2 != 0) = true := bne_iff_ne.mpr he2
    clear he2
    injection h with h
    injection h with hh1 hh2
    subst hh1 hh2
    go_enter Try.func110, Try.ntmps110
    go_wp2_with (first | (go_at_call 104; refine (ledger_place.calls k (some ad) c0 l id (i : Int) 0 _ HR0.out HC0.out HF1.out).mono ?_; rintro e w1 ⟨rfl, hb⟩; clear HF1; replace HB := Aside0.mk (below_then HB.out HB.out.size hb); replace hx0 := (hb.cell (World.block_lt_of_cell? w _ hx0)).trans hx0; replace hx1 := (hb.cell (World.block_lt_of_cell? w _ hx1)).trans hx1; replace hx2 := (hb.cell (World.block_lt_of_cell? w _ hx2)).trans hx2; replace hx3 := (hb.cell (World.block_lt_of_cell? w _ hx3)).trans hx3; replace hx4 := (hb.cell (World.block_lt_of_cell? w _ hx4)).trans hx4; replace hx5 := (hb.cell (World.block_lt_of_cell? w _ hx5)).trans hx5; replace hx6 := (hb.cell (World.block_lt_of_cell? w _ hx6)).trans hx6;  clear hb) | (go_at_call 111; refine (HW.out c A5 c5 c2 e2 _ HB.out (Kd.C_below HI5.out HB.out) HL5.out HF2.out).mono ?_; rintro e w2 ⟨A6, c6, rfl, ho, hb⟩; clear HF2; have HO := Aside0.mk (fun q_ => (ho q_).mono HB.out.size); replace HB := Aside0.mk (below_then HB.out HB.out.size hb); clear ho hb hx0 hx1 hx2 hx3 hx4 hx5 hx6))
    go_ret2
    exact ⟨_, rfl, Own25.nil _ _, HB.out.alloc HB.out.size _⟩
  subst he2
  rw [if_pos rfl] at h
  obtain ⟨m, h1, h_⟩ := Option.bind_eq_some_iff.mp h
  replace h := h_
  clear h_
  have HF3 := Aside0.mk h1
  clear h1
  have hm : m = l := owns_eq HF3.out
  subst hm
  injection h with h
  injection h with hh1 hh2
  subst hh1 hh2
  rw [Int.toNat_natCast]
  obtain ⟨x, hx⟩ : ∃ x, m[i]? = some x := ⟨_, List.getElem?_eq_getElem hi⟩
  have HX := Aside0.mk hx
  have HI := Aside0.mk hi
  clear hx hi
  go_enter Try.func110, Try.ntmps110
  go_wp2_with (first | (go_at_call 104; refine (ledger_place.calls k (some ad) c0 m id (i : Int) 0 _ HR0.out HC0.out HF1.out).mono ?_; rintro e w1 ⟨rfl, hb⟩; clear HF1; replace HB := Aside0.mk (below_then HB.out HB.out.size hb); replace hx0 := (hb.cell (World.block_lt_of_cell? w _ hx0)).trans hx0; replace hx1 := (hb.cell (World.block_lt_of_cell? w _ hx1)).trans hx1; replace hx2 := (hb.cell (World.block_lt_of_cell? w _ hx2)).trans hx2; replace hx3 := (hb.cell (World.block_lt_of_cell? w _ hx3)).trans hx3; replace hx4 := (hb.cell (World.block_lt_of_cell? w _ hx4)).trans hx4; replace hx5 := (hb.cell (World.block_lt_of_cell? w _ hx5)).trans hx5; replace hx6 := (hb.cell (World.block_lt_of_cell? w _ hx6)).trans hx6;  clear hb) | (go_at_call 111; refine (HW.out c A5 c5 c2 0 _ HB.out (Kd.C_below HI5.out HB.out) HL5.out HF2.out).mono ?_; rintro e w2 ⟨A6, c6, rfl, ho, hb⟩; clear HF2; have HO := Aside0.mk (fun q_ => (ho q_).mono HB.out.size); replace HB := Aside0.mk (below_then HB.out HB.out.size hb); clear ho hb hx0 hx1 hx2 hx3 hx4 hx5 hx6) | (go_at_call 102; go_loud (have hal := (Below.refl w2.heap.size w2).alloc (Nat.le_refl _) (.cells #[.int .u64 c2.f0, .int .u64 c2.f1, .int .u64 c2.f2, .int .u64 c2.f3, .int .u64 c2.f4, .slice A6 c2.f5.length c6, .bool c2.f6] 25); have HBL := Aside0.mk (HB.out.alloc HB.out.size (.cells #[.int .u64 c2.f0, .int .u64 c2.f1, .int .u64 c2.f2, .int .u64 c2.f3, .int .u64 c2.f4, .slice A6 c2.f5.length c6, .bool c2.f6] 25)); have HK := Aside0.mk (blk_new w2 (.cells #[.int .u64 c2.f0, .int .u64 c2.f1, .int .u64 c2.f2, .int .u64 c2.f3, .int .u64 c2.f4, .slice A6 c2.f5.length c6, .bool c2.f6] 25)); refine (ledger_owns.calls (some ad) c0 m m _ (Kd.C_below HR0.out HBL.out) HC0.out HF3.out).mono ?_; rintro e w3 ⟨v, rfl, ho, hb⟩; clear HF3; have HB3 := Aside0.mk (below_then HBL.out HBL.out.size hb); replace HK := Aside0.mk (blk_below HK.out hb); have HCH := Aside0.mk (((HO.out trivial).below hal).below hb); obtain ⟨rows, hR, hrl, hrx⟩ := ho; have HVB := Aside0.mk (fun k_ (hk : v.ownBlock = some k_) => Nat.lt_of_lt_of_le (show w2.heap.size < (w2.alloc (.cells #[.int .u64 c2.f0, .int .u64 c2.f1, .int .u64 c2.f2, .int .u64 c2.f3, .int .u64 c2.f4, .slice A6 c2.f5.length c6, .bool c2.f6] 25)).heap.size by simp) (Kd.R_base hR k_ hk)); have HR := Aside0.mk (Kd.R_lower hR HBL.out.size); have HRL := Aside0.mk hrl; have HRX : Aside0 (Rows25 w3 w.heap.size m rows) := ⟨fun j x hj => by obtain ⟨cs, q1, q2⟩ := hrx j x hj; exact ⟨cs, q1, q2.mono HBL.out.size⟩⟩; obtain ⟨g, cap, hv, hbg, hgl, cur, hblk⟩ := Kd.R_form HR.out (by have := HRL.out; have := HI.out; omega); subst hv; obtain ⟨cs, q1, q2⟩ := HRX.out i x HX.out; obtain ⟨A7, c7, hcs, _⟩ := q2; have hCr := (Kd.R_reads' HR.out).2.2; obtain ⟨ad2, ea2, hcell⟩ := hCr.2.2 (by have := HRL.out; have := HI.out; omega); injection ea2 with ea2; subst ea2; obtain ⟨c', r1, r2, r3⟩ := hcell i cs q1; have e1 : c' = cs := r2.1; subst e1; have HCC : Aside0 (∀ j u, c'[j]? = some u → w3.cell? ⟨g, i * 7 + j, none⟩ = some u) := ⟨fun j u hj => by have := r3 j u hj; rw [add_plain] at this; exact this⟩; subst hcs; rw [HRL.out]; have HGL := Aside0.mk hgl; have HBK := Aside0.mk hblk; obtain ⟨hz0, hz1, hz2, hz3, hz4, hz5, hz6, hz7, hz8, hz9, hz10, hz11, hz12, hz13⟩ := cz7_ HK.out; clear hal HB HBL hb hR hrl hrx hbg hgl hblk q1 hCr hcell r1 r2 r3 HO)) | ((with_reducible refine gate_ (.store 25 (.tmp 37) (.tmp 36)) rfl ?_); refine Kd.R_store (Kd.raw 7) (w0 := w) w.heap.size rfl rfl 25 (.tmp 37) (.tmp 36) rfl 25 (i : Int) 0 rows [.int .u64 c2.f0, .int .u64 c2.f1, .int .u64 c2.f2, .int .u64 c2.f3, .int .u64 c2.f4, .slice A6 c2.f5.length c6, .bool c2.f6] (.agg #[.int .u64 c2.f0, .int .u64 c2.f1, .int .u64 c2.f2, .int .u64 c2.f3, .int .u64 c2.f4, .slice A6 c2.f5.length c6, .bool c2.f6]) [.int .u64 c2.f0, .int .u64 c2.f1, .int .u64 c2.f2, .int .u64 c2.f3, .int .u64 c2.f4, .slice A6 c2.f5.length c6, .bool c2.f6] [.int .u64 x.f0, .int .u64 x.f1, .int .u64 x.f2, .int .u64 x.f3, .int .u64 x.f4, .slice A7 x.f5.length c7, .bool x.f6] (fun _ => True) (fun _ => False) rfl (by rw [Int.toNat_natCast]; rfl) rfl rfl (by kernel_rfl) (by intro q hq; simp at hq; rcases hq with rfl | rfl | rfl | rfl | rfl | rfl | rfl <;> rfl) HR.out (by omega) (by have := HRL.out; have := HI.out; omega) rfl (fun j u hj => by rw [Int.toNat_natCast]; exact HCC.out j u hj) (Nat.le_refl _) ⟨rfl, rfl, (by intro q hq; simp at hq; rcases hq with rfl | rfl | rfl | rfl | rfl | rfl | rfl <;> rfl)⟩ (fun _ hk => hk.elim) HB3.out ?_; intro w4 ho3 hb3 hg3; rw [Int.toNat_natCast, HRL.out] at ho3; have HR3 := Aside0.mk ho3; have HB4 := Aside0.mk hb3; have HH3 := Aside0.mk (Rows25.set (i := i) HRX.out HCH.out hg3 HBK.out); clear ho3 hb3 hg3))
  go_ret2
  exact ⟨_, rfl, ⟨_, HR3.out, by rw [List.length_set, List.length_set]; exact HRL.out, HH3.out⟩, HB4.out⟩
set_option maxHeartbeats 16000000 in
set_option maxRecDepth 100000 in
theorem ledger_change.callsS_114 (k : Nat) (A0 : Option Addr) (c0 : Nat) (l : List S25) (id : Int) (p1 : Value) (how : S25 → Option (S25 × Int)) (r : List S25) (er : Int) (w : World) (hr0 : Kd.C k25 w A0 l.length l) (hc0 : l.length ≤ c0) (hw : HowAt w 114 [p1] how) (h : ledger_change.g k l id how = some (r, er)) :
    Calls Try.prog 110 #[.slice A0 l.length c0, .int .u64 id, .func (.func 114) #[] #[p1]] w fun e w' => ∃ v : Value, e = .returned (.tuple #[v, .int .i64 er]) ∧ Own25 w' w.heap.size v r ∧ Below w.heap.size w w' := by
  have HR0 := Aside0.mk hr0
  have HC0 := Aside0.mk hc0
  have HW := Aside0.mk hw
  clear hr0 hc0 hw
  have HB := Aside0.mk (Below.refl w.heap.size w)
  unfold ledger_change.g at h
  obtain ⟨⟨pi, pe⟩, h1, h_⟩ := Option.bind_eq_some_iff.mp h
  replace h := h_
  clear h_
  have HF1 := Aside0.mk h1
  clear h1
  dsimp only at h
  by_cases hpe : pe = 0
  case neg =>
    rw [if_neg hpe] at h
    have hpeb : (pe != 0) = true := bne_iff_ne.mpr hpe
    clear hpe
    injection h with h
    injection h with hh1 hh2
    subst hh1 hh2
    go_enter Try.func110, Try.ntmps110
    go_wp2_with (go_at_call 104; refine (ledger_place.calls k A0 c0 l id pi pe _ HR0.out HC0.out HF1.out).mono ?_; rintro e w1 ⟨rfl, hb⟩; clear HF1; replace HB := Aside0.mk (below_then HB.out HB.out.size hb);  clear hb)
    go_ret2
    exact ⟨_, rfl, Own25.nil _ _, HB.out⟩
  subst hpe
  rw [if_pos rfl] at h
  by_cases hpi : 0 ≤ pi ∧ pi < (l.length : Int)
  case neg => rw [if_neg hpi] at h; cases h
  rw [if_pos hpi] at h
  obtain ⟨hp0, hp1⟩ := hpi
  obtain ⟨i, rfl⟩ := Int.eq_ofNat_of_zero_le hp0
  have hi : i < l.length := by omega
  obtain ⟨ad, A5, c5, ea, hx0, hx1, hx2, hx3, hx4, hx5, hx6, hl5, hi5⟩ := at_T25 HR0.out (i : Int) (by omega) (by omega)
  subst ea
  obtain ⟨c, hc⟩ : ∃ c, c = rd_T25 l (i : Int) := ⟨_, rfl⟩
  rw [← hc] at h
  simp only [← hc, Int.toNat_natCast] at hx0 hx1 hx2 hx3 hx4 hx5 hx6 hl5 hi5
  have HL5 := Aside0.mk hl5
  have HI5 := Aside0.mk hi5
  clear hl5 hi5 hc
  obtain ⟨⟨c2, e2⟩, h1, h_⟩ := Option.bind_eq_some_iff.mp h
  replace h := h_
  clear h_
  have HF2 := Aside0.mk h1
  clear h1
  dsimp only at h
  by_cases he2 : e2 = 0
  case neg =>
    rw [if_neg he2] at h
    have he2b : (e2 != 0) = true := bne_iff_ne.mpr he2
    clear he2
    injection h with h
    injection h with hh1 hh2
    subst hh1 hh2
    go_enter Try.func110, Try.ntmps110
    go_wp2_with (first | (go_at_call 104; refine (ledger_place.calls k (some ad) c0 l id (i : Int) 0 _ HR0.out HC0.out HF1.out).mono ?_; rintro e w1 ⟨rfl, hb⟩; clear HF1; replace HB := Aside0.mk (below_then HB.out HB.out.size hb); replace hx0 := (hb.cell (World.block_lt_of_cell? w _ hx0)).trans hx0; replace hx1 := (hb.cell (World.block_lt_of_cell? w _ hx1)).trans hx1; replace hx2 := (hb.cell (World.block_lt_of_cell? w _ hx2)).trans hx2; replace hx3 := (hb.cell (World.block_lt_of_cell? w _ hx3)).trans hx3; replace hx4 := (hb.cell (World.block_lt_of_cell? w _ hx4)).trans hx4; replace hx5 := (hb.cell (World.block_lt_of_cell? w _ hx5)).trans hx5; replace hx6 := (hb.cell (World.block_lt_of_cell? w _ hx6)).trans hx6;  clear hb) | (go_at_call 114; refine (HW.out c A5 c5 c2 e2 _ HB.out (Kd.C_below HI5.out HB.out) HL5.out HF2.out).mono ?_; rintro e w2 ⟨A6, c6, rfl, ho, hb⟩; clear HF2; have HO := Aside0.mk (fun q_ => (ho q_).mono HB.out.size); replace HB := Aside0.mk (below_then HB.out HB.out.size hb); clear ho hb hx0 hx1 hx2 hx3 hx4 hx5 hx6))
    go_ret2
    exact ⟨_, rfl, Own25.nil _ _, HB.out.alloc HB.out.size _⟩
  subst he2
  rw [if_pos rfl] at h
  obtain ⟨m, h1, h_⟩ := Option.bind_eq_some_iff.mp h
  replace h := h_
  clear h_
  have HF3 := Aside0.mk h1
  clear h1
  have hm : m = l := owns_eq HF3.out
  subst hm
  injection h with h
  injection h with hh1 hh2
  subst hh1 hh2
  rw [Int.toNat_natCast]
  obtain ⟨x, hx⟩ : ∃ x, m[i]? = some x := ⟨_, List.getElem?_eq_getElem hi⟩
  have HX := Aside0.mk hx
  have HI := Aside0.mk hi
  clear hx hi
  go_enter Try.func110, Try.ntmps110
  go_wp2_with (first | (go_at_call 104; refine (ledger_place.calls k (some ad) c0 m id (i : Int) 0 _ HR0.out HC0.out HF1.out).mono ?_; rintro e w1 ⟨rfl, hb⟩; clear HF1; replace HB := Aside0.mk (below_then HB.out HB.out.size hb); replace hx0 := (hb.cell (World.block_lt_of_cell? w _ hx0)).trans hx0; replace hx1 := (hb.cell (World.block_lt_of_cell? w _ hx1)).trans hx1; replace hx2 := (hb.cell (World.block_lt_of_cell? w _ hx2)).trans hx2; replace hx3 := (hb.cell (World.block_lt_of_cell? w _ hx3)).trans hx3; replace hx4 := (hb.cell (World.block_lt_of_cell? w _ hx4)).trans hx4; replace hx5 := (hb.cell (World.block_lt_of_cell? w _ hx5)).trans hx5; replace hx6 := (hb.cell (World.block_lt_of_cell? w _ hx6)).trans hx6;  clear hb) | (go_at_call 114; refine (HW.out c A5 c5 c2 0 _ HB.out (Kd.C_below HI5.out HB.out) HL5.out HF2.out).mono ?_; rintro e w2 ⟨A6, c6, rfl, ho, hb⟩; clear HF2; have HO := Aside0.mk (fun q_ => (ho q_).mono HB.out.size); replace HB := Aside0.mk (below_then HB.out HB.out.size hb); clear ho hb hx0 hx1 hx2 hx3 hx4 hx5 hx6) | (go_at_call 102; go_loud (have hal := (Below.refl w2.heap.size w2).alloc (Nat.le_refl _) (.cells #[.int .u64 c2.f0, .int .u64 c2.f1, .int .u64 c2.f2, .int .u64 c2.f3, .int .u64 c2.f4, .slice A6 c2.f5.length c6, .bool c2.f6] 25); have HBL := Aside0.mk (HB.out.alloc HB.out.size (.cells #[.int .u64 c2.f0, .int .u64 c2.f1, .int .u64 c2.f2, .int .u64 c2.f3, .int .u64 c2.f4, .slice A6 c2.f5.length c6, .bool c2.f6] 25)); have HK := Aside0.mk (blk_new w2 (.cells #[.int .u64 c2.f0, .int .u64 c2.f1, .int .u64 c2.f2, .int .u64 c2.f3, .int .u64 c2.f4, .slice A6 c2.f5.length c6, .bool c2.f6] 25)); refine (ledger_owns.calls (some ad) c0 m m _ (Kd.C_below HR0.out HBL.out) HC0.out HF3.out).mono ?_; rintro e w3 ⟨v, rfl, ho, hb⟩; clear HF3; have HB3 := Aside0.mk (below_then HBL.out HBL.out.size hb); replace HK := Aside0.mk (blk_below HK.out hb); have HCH := Aside0.mk (((HO.out trivial).below hal).below hb); obtain ⟨rows, hR, hrl, hrx⟩ := ho; have HVB := Aside0.mk (fun k_ (hk : v.ownBlock = some k_) => Nat.lt_of_lt_of_le (show w2.heap.size < (w2.alloc (.cells #[.int .u64 c2.f0, .int .u64 c2.f1, .int .u64 c2.f2, .int .u64 c2.f3, .int .u64 c2.f4, .slice A6 c2.f5.length c6, .bool c2.f6] 25)).heap.size by simp) (Kd.R_base hR k_ hk)); have HR := Aside0.mk (Kd.R_lower hR HBL.out.size); have HRL := Aside0.mk hrl; have HRX : Aside0 (Rows25 w3 w.heap.size m rows) := ⟨fun j x hj => by obtain ⟨cs, q1, q2⟩ := hrx j x hj; exact ⟨cs, q1, q2.mono HBL.out.size⟩⟩; obtain ⟨g, cap, hv, hbg, hgl, cur, hblk⟩ := Kd.R_form HR.out (by have := HRL.out; have := HI.out; omega); subst hv; obtain ⟨cs, q1, q2⟩ := HRX.out i x HX.out; obtain ⟨A7, c7, hcs, _⟩ := q2; have hCr := (Kd.R_reads' HR.out).2.2; obtain ⟨ad2, ea2, hcell⟩ := hCr.2.2 (by have := HRL.out; have := HI.out; omega); injection ea2 with ea2; subst ea2; obtain ⟨c', r1, r2, r3⟩ := hcell i cs q1; have e1 : c' = cs := r2.1; subst e1; have HCC : Aside0 (∀ j u, c'[j]? = some u → w3.cell? ⟨g, i * 7 + j, none⟩ = some u) := ⟨fun j u hj => by have := r3 j u hj; rw [add_plain] at this; exact this⟩; subst hcs; rw [HRL.out]; have HGL := Aside0.mk hgl; have HBK := Aside0.mk hblk; obtain ⟨hz0, hz1, hz2, hz3, hz4, hz5, hz6, hz7, hz8, hz9, hz10, hz11, hz12, hz13⟩ := cz7_ HK.out; clear hal HB HBL hb hR hrl hrx hbg hgl hblk q1 hCr hcell r1 r2 r3 HO)) | ((with_reducible refine gate_ (.store 25 (.tmp 37) (.tmp 36)) rfl ?_); refine Kd.R_store (Kd.raw 7) (w0 := w) w.heap.size rfl rfl 25 (.tmp 37) (.tmp 36) rfl 25 (i : Int) 0 rows [.int .u64 c2.f0, .int .u64 c2.f1, .int .u64 c2.f2, .int .u64 c2.f3, .int .u64 c2.f4, .slice A6 c2.f5.length c6, .bool c2.f6] (.agg #[.int .u64 c2.f0, .int .u64 c2.f1, .int .u64 c2.f2, .int .u64 c2.f3, .int .u64 c2.f4, .slice A6 c2.f5.length c6, .bool c2.f6]) [.int .u64 c2.f0, .int .u64 c2.f1, .int .u64 c2.f2, .int .u64 c2.f3, .int .u64 c2.f4, .slice A6 c2.f5.length c6, .bool c2.f6] [.int .u64 x.f0, .int .u64 x.f1, .int .u64 x.f2, .int .u64 x.f3, .int .u64 x.f4, .slice A7 x.f5.length c7, .bool x.f6] (fun _ => True) (fun _ => False) rfl (by rw [Int.toNat_natCast]; rfl) rfl rfl (by kernel_rfl) (by intro q hq; simp at hq; rcases hq with rfl | rfl | rfl | rfl | rfl | rfl | rfl <;> rfl) HR.out (by omega) (by have := HRL.out; have := HI.out; omega) rfl (fun j u hj => by rw [Int.toNat_natCast]; exact HCC.out j u hj) (Nat.le_refl _) ⟨rfl, rfl, (by intro q hq; simp at hq; rcases hq with rfl | rfl | rfl | rfl | rfl | rfl | rfl <;> rfl)⟩ (fun _ hk => hk.elim) HB3.out ?_; intro w4 ho3 hb3 hg3; rw [Int.toNat_natCast, HRL.out] at ho3; have HR3 := Aside0.mk ho3; have HB4 := Aside0.mk hb3; have HH3 := Aside0.mk (Rows25.set (i := i) HRX.out HCH.out hg3 HBK.out); clear ho3 hb3 hg3))
  go_ret2
  exact ⟨_, rfl, ⟨_, HR3.out, by rw [List.length_set, List.length_set]; exact HRL.out, HH3.out⟩, HB4.out⟩
set_option maxHeartbeats 16000000 in
set_option maxRecDepth 100000 in
theorem ledger_change.callsS_37 (k : Nat) (A0 : Option Addr) (c0 : Nat) (l : List S25) (id : Int) (how : S25 → Option (S25 × Int)) (r : List S25) (er : Int) (w : World) (hr0 : Kd.C k25 w A0 l.length l) (hc0 : l.length ≤ c0) (hw : HowAt w 37 [] how) (h : ledger_change.g k l id how = some (r, er)) :
    Calls Try.prog 110 #[.slice A0 l.length c0, .int .u64 id, .func (.func 37) #[] #[]] w fun e w' => ∃ v : Value, e = .returned (.tuple #[v, .int .i64 er]) ∧ Own25 w' w.heap.size v r ∧ Below w.heap.size w w' := by
  have HR0 := Aside0.mk hr0
  have HC0 := Aside0.mk hc0
  have HW := Aside0.mk hw
  clear hr0 hc0 hw
  have HB := Aside0.mk (Below.refl w.heap.size w)
  unfold ledger_change.g at h
  obtain ⟨⟨pi, pe⟩, h1, h_⟩ := Option.bind_eq_some_iff.mp h
  replace h := h_
  clear h_
  have HF1 := Aside0.mk h1
  clear h1
  dsimp only at h
  by_cases hpe : pe = 0
  case neg =>
    rw [if_neg hpe] at h
    have hpeb : (pe != 0) = true := bne_iff_ne.mpr hpe
    clear hpe
    injection h with h
    injection h with hh1 hh2
    subst hh1 hh2
    go_enter Try.func110, Try.ntmps110
    go_wp2_with (go_at_call 104; refine (ledger_place.calls k A0 c0 l id pi pe _ HR0.out HC0.out HF1.out).mono ?_; rintro e w1 ⟨rfl, hb⟩; clear HF1; replace HB := Aside0.mk (below_then HB.out HB.out.size hb);  clear hb)
    go_ret2
    exact ⟨_, rfl, Own25.nil _ _, HB.out⟩
  subst hpe
  rw [if_pos rfl] at h
  by_cases hpi : 0 ≤ pi ∧ pi < (l.length : Int)
  case neg => rw [if_neg hpi] at h; cases h
  rw [if_pos hpi] at h
  obtain ⟨hp0, hp1⟩ := hpi
  obtain ⟨i, rfl⟩ := Int.eq_ofNat_of_zero_le hp0
  have hi : i < l.length := by omega
  obtain ⟨ad, A5, c5, ea, hx0, hx1, hx2, hx3, hx4, hx5, hx6, hl5, hi5⟩ := at_T25 HR0.out (i : Int) (by omega) (by omega)
  subst ea
  obtain ⟨c, hc⟩ : ∃ c, c = rd_T25 l (i : Int) := ⟨_, rfl⟩
  rw [← hc] at h
  simp only [← hc, Int.toNat_natCast] at hx0 hx1 hx2 hx3 hx4 hx5 hx6 hl5 hi5
  have HL5 := Aside0.mk hl5
  have HI5 := Aside0.mk hi5
  clear hl5 hi5 hc
  obtain ⟨⟨c2, e2⟩, h1, h_⟩ := Option.bind_eq_some_iff.mp h
  replace h := h_
  clear h_
  have HF2 := Aside0.mk h1
  clear h1
  dsimp only at h
  by_cases he2 : e2 = 0
  case neg =>
    rw [if_neg he2] at h
    have he2b : (e2 != 0) = true := bne_iff_ne.mpr he2
    clear he2
    injection h with h
    injection h with hh1 hh2
    subst hh1 hh2
    go_enter Try.func110, Try.ntmps110
    go_wp2_with (first | (go_at_call 104; refine (ledger_place.calls k (some ad) c0 l id (i : Int) 0 _ HR0.out HC0.out HF1.out).mono ?_; rintro e w1 ⟨rfl, hb⟩; clear HF1; replace HB := Aside0.mk (below_then HB.out HB.out.size hb); replace hx0 := (hb.cell (World.block_lt_of_cell? w _ hx0)).trans hx0; replace hx1 := (hb.cell (World.block_lt_of_cell? w _ hx1)).trans hx1; replace hx2 := (hb.cell (World.block_lt_of_cell? w _ hx2)).trans hx2; replace hx3 := (hb.cell (World.block_lt_of_cell? w _ hx3)).trans hx3; replace hx4 := (hb.cell (World.block_lt_of_cell? w _ hx4)).trans hx4; replace hx5 := (hb.cell (World.block_lt_of_cell? w _ hx5)).trans hx5; replace hx6 := (hb.cell (World.block_lt_of_cell? w _ hx6)).trans hx6;  clear hb) | (go_at_call 37; refine (HW.out c A5 c5 c2 e2 _ HB.out (Kd.C_below HI5.out HB.out) HL5.out HF2.out).mono ?_; rintro e w2 ⟨A6, c6, rfl, ho, hb⟩; clear HF2; have HO := Aside0.mk (fun q_ => (ho q_).mono HB.out.size); replace HB := Aside0.mk (below_then HB.out HB.out.size hb); clear ho hb hx0 hx1 hx2 hx3 hx4 hx5 hx6))
    go_ret2
    exact ⟨_, rfl, Own25.nil _ _, HB.out.alloc HB.out.size _⟩
  subst he2
  rw [if_pos rfl] at h
  obtain ⟨m, h1, h_⟩ := Option.bind_eq_some_iff.mp h
  replace h := h_
  clear h_
  have HF3 := Aside0.mk h1
  clear h1
  have hm : m = l := owns_eq HF3.out
  subst hm
  injection h with h
  injection h with hh1 hh2
  subst hh1 hh2
  rw [Int.toNat_natCast]
  obtain ⟨x, hx⟩ : ∃ x, m[i]? = some x := ⟨_, List.getElem?_eq_getElem hi⟩
  have HX := Aside0.mk hx
  have HI := Aside0.mk hi
  clear hx hi
  go_enter Try.func110, Try.ntmps110
  go_wp2_with (first | (go_at_call 104; refine (ledger_place.calls k (some ad) c0 m id (i : Int) 0 _ HR0.out HC0.out HF1.out).mono ?_; rintro e w1 ⟨rfl, hb⟩; clear HF1; replace HB := Aside0.mk (below_then HB.out HB.out.size hb); replace hx0 := (hb.cell (World.block_lt_of_cell? w _ hx0)).trans hx0; replace hx1 := (hb.cell (World.block_lt_of_cell? w _ hx1)).trans hx1; replace hx2 := (hb.cell (World.block_lt_of_cell? w _ hx2)).trans hx2; replace hx3 := (hb.cell (World.block_lt_of_cell? w _ hx3)).trans hx3; replace hx4 := (hb.cell (World.block_lt_of_cell? w _ hx4)).trans hx4; replace hx5 := (hb.cell (World.block_lt_of_cell? w _ hx5)).trans hx5; replace hx6 := (hb.cell (World.block_lt_of_cell? w _ hx6)).trans hx6;  clear hb) | (go_at_call 37; refine (HW.out c A5 c5 c2 0 _ HB.out (Kd.C_below HI5.out HB.out) HL5.out HF2.out).mono ?_; rintro e w2 ⟨A6, c6, rfl, ho, hb⟩; clear HF2; have HO := Aside0.mk (fun q_ => (ho q_).mono HB.out.size); replace HB := Aside0.mk (below_then HB.out HB.out.size hb); clear ho hb hx0 hx1 hx2 hx3 hx4 hx5 hx6) | (go_at_call 102; go_loud (have hal := (Below.refl w2.heap.size w2).alloc (Nat.le_refl _) (.cells #[.int .u64 c2.f0, .int .u64 c2.f1, .int .u64 c2.f2, .int .u64 c2.f3, .int .u64 c2.f4, .slice A6 c2.f5.length c6, .bool c2.f6] 25); have HBL := Aside0.mk (HB.out.alloc HB.out.size (.cells #[.int .u64 c2.f0, .int .u64 c2.f1, .int .u64 c2.f2, .int .u64 c2.f3, .int .u64 c2.f4, .slice A6 c2.f5.length c6, .bool c2.f6] 25)); have HK := Aside0.mk (blk_new w2 (.cells #[.int .u64 c2.f0, .int .u64 c2.f1, .int .u64 c2.f2, .int .u64 c2.f3, .int .u64 c2.f4, .slice A6 c2.f5.length c6, .bool c2.f6] 25)); refine (ledger_owns.calls (some ad) c0 m m _ (Kd.C_below HR0.out HBL.out) HC0.out HF3.out).mono ?_; rintro e w3 ⟨v, rfl, ho, hb⟩; clear HF3; have HB3 := Aside0.mk (below_then HBL.out HBL.out.size hb); replace HK := Aside0.mk (blk_below HK.out hb); have HCH := Aside0.mk (((HO.out trivial).below hal).below hb); obtain ⟨rows, hR, hrl, hrx⟩ := ho; have HVB := Aside0.mk (fun k_ (hk : v.ownBlock = some k_) => Nat.lt_of_lt_of_le (show w2.heap.size < (w2.alloc (.cells #[.int .u64 c2.f0, .int .u64 c2.f1, .int .u64 c2.f2, .int .u64 c2.f3, .int .u64 c2.f4, .slice A6 c2.f5.length c6, .bool c2.f6] 25)).heap.size by simp) (Kd.R_base hR k_ hk)); have HR := Aside0.mk (Kd.R_lower hR HBL.out.size); have HRL := Aside0.mk hrl; have HRX : Aside0 (Rows25 w3 w.heap.size m rows) := ⟨fun j x hj => by obtain ⟨cs, q1, q2⟩ := hrx j x hj; exact ⟨cs, q1, q2.mono HBL.out.size⟩⟩; obtain ⟨g, cap, hv, hbg, hgl, cur, hblk⟩ := Kd.R_form HR.out (by have := HRL.out; have := HI.out; omega); subst hv; obtain ⟨cs, q1, q2⟩ := HRX.out i x HX.out; obtain ⟨A7, c7, hcs, _⟩ := q2; have hCr := (Kd.R_reads' HR.out).2.2; obtain ⟨ad2, ea2, hcell⟩ := hCr.2.2 (by have := HRL.out; have := HI.out; omega); injection ea2 with ea2; subst ea2; obtain ⟨c', r1, r2, r3⟩ := hcell i cs q1; have e1 : c' = cs := r2.1; subst e1; have HCC : Aside0 (∀ j u, c'[j]? = some u → w3.cell? ⟨g, i * 7 + j, none⟩ = some u) := ⟨fun j u hj => by have := r3 j u hj; rw [add_plain] at this; exact this⟩; subst hcs; rw [HRL.out]; have HGL := Aside0.mk hgl; have HBK := Aside0.mk hblk; obtain ⟨hz0, hz1, hz2, hz3, hz4, hz5, hz6, hz7, hz8, hz9, hz10, hz11, hz12, hz13⟩ := cz7_ HK.out; clear hal HB HBL hb hR hrl hrx hbg hgl hblk q1 hCr hcell r1 r2 r3 HO)) | ((with_reducible refine gate_ (.store 25 (.tmp 37) (.tmp 36)) rfl ?_); refine Kd.R_store (Kd.raw 7) (w0 := w) w.heap.size rfl rfl 25 (.tmp 37) (.tmp 36) rfl 25 (i : Int) 0 rows [.int .u64 c2.f0, .int .u64 c2.f1, .int .u64 c2.f2, .int .u64 c2.f3, .int .u64 c2.f4, .slice A6 c2.f5.length c6, .bool c2.f6] (.agg #[.int .u64 c2.f0, .int .u64 c2.f1, .int .u64 c2.f2, .int .u64 c2.f3, .int .u64 c2.f4, .slice A6 c2.f5.length c6, .bool c2.f6]) [.int .u64 c2.f0, .int .u64 c2.f1, .int .u64 c2.f2, .int .u64 c2.f3, .int .u64 c2.f4, .slice A6 c2.f5.length c6, .bool c2.f6] [.int .u64 x.f0, .int .u64 x.f1, .int .u64 x.f2, .int .u64 x.f3, .int .u64 x.f4, .slice A7 x.f5.length c7, .bool x.f6] (fun _ => True) (fun _ => False) rfl (by rw [Int.toNat_natCast]; rfl) rfl rfl (by kernel_rfl) (by intro q hq; simp at hq; rcases hq with rfl | rfl | rfl | rfl | rfl | rfl | rfl <;> rfl) HR.out (by omega) (by have := HRL.out; have := HI.out; omega) rfl (fun j u hj => by rw [Int.toNat_natCast]; exact HCC.out j u hj) (Nat.le_refl _) ⟨rfl, rfl, (by intro q hq; simp at hq; rcases hq with rfl | rfl | rfl | rfl | rfl | rfl | rfl <;> rfl)⟩ (fun _ hk => hk.elim) HB3.out ?_; intro w4 ho3 hb3 hg3; rw [Int.toNat_natCast, HRL.out] at ho3; have HR3 := Aside0.mk ho3; have HB4 := Aside0.mk hb3; have HH3 := Aside0.mk (Rows25.set (i := i) HRX.out HCH.out hg3 HBK.out); clear ho3 hb3 hg3))
  go_ret2
  exact ⟨_, rfl, ⟨_, HR3.out, by rw [List.length_set, List.length_set]; exact HRL.out, HH3.out⟩, HB4.out⟩
theorem ledger_change.mono_g (l : List S25) (id : Int) (h1 h2 : S25 → Option (S25 × Int)) (hm : ∀ c, LeO (h1 c) (h2 c)) (k : Nat) : LeO (ledger_change.g k l id h1) (ledger_change.g (k + 1) l id h2) := by
  unfold ledger_change.g
  repeat' first
    | (with_reducible exact LeO.refl _)
    | exact hm _
    | apply ledger_place.mono
    | (with_reducible refine LeO.ite ?_ ?_)
    | (with_reducible refine LeO.bind ?_ (fun _ => ?_))

/-! ### ledger_Hold: function 57 (by hand) -/
def ledger_Hold.how (k : Nat) (l : List S25) (hold n : Int) (c : S25) : Option (S25 × Int) := (ledger_Where.f k l hold).bind fun q => if q.2 = 0 then some (c, 6) else (channel_Hold.f k c.f0 c.f1 c.f2 c.f3 c.f4 c.f5 c.f6 hold n).bind fun r => some (⟨r.1, r.2.1, r.2.2.1, r.2.2.2.1, r.2.2.2.2.1, r.2.2.2.2.2.1, r.2.2.2.2.2.2.1⟩, r.2.2.2.2.2.2.2)
set_option maxHeartbeats 16000000 in
set_option maxRecDepth 100000 in
theorem ledger_Hold.hows (k : Nat) (A0 : Option Addr) (c0 : Nat) (l : List S25) (hold n : Int) (b1 b2 b3 : Nat) (w : World) (hr0 : Kd.C k25 w A0 l.length l) (hc0 : l.length ≤ c0) (hb1 : w.cell? ⟨b1, 0, none⟩ = some (.slice A0 l.length c0)) (hb2 : w.cell? ⟨b2, 0, none⟩ = some (.int .u64 hold)) (hb3 : w.cell? ⟨b3, 0, none⟩ = some (.int .u64 n)) :
    HowAt w 111 [.pointer (some ⟨b1, 0, none⟩), .pointer (some ⟨b2, 0, none⟩), .pointer (some ⟨b3, 0, none⟩)] (ledger_Hold.how k l hold n) := by
  intro c A1 c1 c2 e2 w1 hb hC hl h
  have HR0 := Aside0.mk (Kd.C_below hr0 hb)
  have HC0 := Aside0.mk hc0
  have HI5 := Aside0.mk hC
  have HL5 := Aside0.mk hl
  replace hb1 := (hb.cell (World.block_lt_of_cell? w _ hb1)).trans hb1
  replace hb2 := (hb.cell (World.block_lt_of_cell? w _ hb2)).trans hb2
  replace hb3 := (hb.cell (World.block_lt_of_cell? w _ hb3)).trans hb3
  have hlt1 : b1 < w1.heap.size := World.block_lt_of_cell? w1 _ hb1
  have hlt2 : b2 < w1.heap.size := World.block_lt_of_cell? w1 _ hb2
  have hlt3 : b3 < w1.heap.size := World.block_lt_of_cell? w1 _ hb3
  clear hr0 hc0 hC hl hb
  unfold ledger_Hold.how at h
  obtain ⟨⟨q1, q2⟩, h1, h_⟩ := Option.bind_eq_some_iff.mp h
  replace h := h_
  clear h_
  have HF1 := Aside0.mk h1
  clear h1
  dsimp only at h
  show Calls Try.prog 111 #[.agg #[.int .u64 c.f0, .int .u64 c.f1, .int .u64 c.f2, .int .u64 c.f3, .int .u64 c.f4, .slice A1 c.f5.length c1, .bool c.f6], .pointer (some ⟨b1, 0, none⟩), .pointer (some ⟨b2, 0, none⟩), .pointer (some ⟨b3, 0, none⟩)] w1 _
  by_cases hq : q2 = 0
  · subst hq
    rw [if_pos rfl] at h
    injection h with h
    injection h with hh1 hh2
    subst hh1 hh2
    go_enter Try.func111, Try.ntmps111
    go_wp2_with (go_at_call 50; have hal := (Below.refl w1.heap.size w1).alloc (Nat.le_refl _) (.cells #[.int .u64 c.f0, .int .u64 c.f1, .int .u64 c.f2, .int .u64 c.f3, .int .u64 c.f4, .slice A1 c.f5.length c1, .bool c.f6] 25); have hal2 := below_then hal (show w1.heap.size ≤ (w1.alloc (.cells #[.int .u64 c.f0, .int .u64 c.f1, .int .u64 c.f2, .int .u64 c.f3, .int .u64 c.f4, .slice A1 c.f5.length c1, .bool c.f6] 25)).heap.size by simp) ((Below.refl (w1.alloc (.cells #[.int .u64 c.f0, .int .u64 c.f1, .int .u64 c.f2, .int .u64 c.f3, .int .u64 c.f4, .slice A1 c.f5.length c1, .bool c.f6] 25)).heap.size (w1.alloc (.cells #[.int .u64 c.f0, .int .u64 c.f1, .int .u64 c.f2, .int .u64 c.f3, .int .u64 c.f4, .slice A1 c.f5.length c1, .bool c.f6] 25))).alloc (Nat.le_refl _) (.cells #[.int .u64 0, .int .u64 0, .int .u64 0, .int .u64 0, .int .u64 0, .slice none 0 0, .bool false] 25)); have HB := Aside0.mk hal2; have HK := Aside0.mk (blk_below (blk_new w1 (.cells #[.int .u64 c.f0, .int .u64 c.f1, .int .u64 c.f2, .int .u64 c.f3, .int .u64 c.f4, .slice A1 c.f5.length c1, .bool c.f6] 25)) ((Below.refl (w1.alloc (.cells #[.int .u64 c.f0, .int .u64 c.f1, .int .u64 c.f2, .int .u64 c.f3, .int .u64 c.f4, .slice A1 c.f5.length c1, .bool c.f6] 25)).heap.size (w1.alloc (.cells #[.int .u64 c.f0, .int .u64 c.f1, .int .u64 c.f2, .int .u64 c.f3, .int .u64 c.f4, .slice A1 c.f5.length c1, .bool c.f6] 25))).alloc (Nat.le_refl _) (.cells #[.int .u64 0, .int .u64 0, .int .u64 0, .int .u64 0, .int .u64 0, .slice none 0 0, .bool false] 25))); have HK5 := Aside0.mk (blk_new2 w1 (.cells #[.int .u64 c.f0, .int .u64 c.f1, .int .u64 c.f2, .int .u64 c.f3, .int .u64 c.f4, .slice A1 c.f5.length c1, .bool c.f6] 25) (.cells #[.int .u64 0, .int .u64 0, .int .u64 0, .int .u64 0, .int .u64 0, .slice none 0 0, .bool false] 25)); refine (ledger_Where.calls k A0 c0 l hold q1 0 _ (Kd.C_below HR0.out HB.out) HC0.out HF1.out).mono ?_; rintro e w2 ⟨rfl, hb⟩; clear HF1; replace HB := Aside0.mk (below_then HB.out HB.out.size hb); replace HK := Aside0.mk (blk_below HK.out hb); replace HK5 := Aside0.mk (blk_below HK5.out hb); replace hb2 := (HB.out.cell hlt2).trans hb2; replace hb3 := (HB.out.cell hlt3).trans hb3; obtain ⟨hz0, hz1, hz2, hz3, hz4, hz5, hz6, hz7, hz8, hz9, hz10, hz11, hz12, hz13⟩ := cz7_ HK.out; obtain ⟨hy0, hy1, hy2, hy3, hy4, hy5, hy6, hy7, hy8, hy9, hy10, hy11, hy12, hy13⟩ := cz7_ HK5.out; clear hal hal2 hb)
    refine bodyPost_ret (results_ct rfl _ _ (w1.heap.size + 1) 25 #[.int .u64 c.f0, .int .u64 c.f1, .int .u64 c.f2, .int .u64 c.f3, .int .u64 c.f4, .slice A1 c.f5.length c1, .bool c.f6] (0, 0) _ rfl (put7_self (w := w2) (c := c) (v := .slice A1 c.f5.length c1) HK5.out) Try.underlying25 rfl (by kernel_rfl)) rfl ?_
    exact ⟨_, _, rfl, fun h => absurd h (by decide), put7_below (c := c) (v := .slice A1 c.f5.length c1) HB.out (Nat.le_succ _)⟩
  · rw [if_neg hq] at h
    have hqb : (q2 == 0) = false := beq_eq_false_iff_ne.mpr hq
    clear hq
    obtain ⟨⟨r1, r2, r3, r4, r5, r6, r7, r8⟩, h1, h_⟩ := Option.bind_eq_some_iff.mp h
    replace h := h_
    clear h_
    have HF2 := Aside0.mk h1
    clear h1
    injection h with h
    injection h with hh1 hh2
    dsimp only at hh1 hh2
    subst hh1 hh2
    go_enter Try.func111, Try.ntmps111
    go_wp2_with (first | (go_at_call 50; have hal := (Below.refl w1.heap.size w1).alloc (Nat.le_refl _) (.cells #[.int .u64 c.f0, .int .u64 c.f1, .int .u64 c.f2, .int .u64 c.f3, .int .u64 c.f4, .slice A1 c.f5.length c1, .bool c.f6] 25); have hal2 := below_then hal (show w1.heap.size ≤ (w1.alloc (.cells #[.int .u64 c.f0, .int .u64 c.f1, .int .u64 c.f2, .int .u64 c.f3, .int .u64 c.f4, .slice A1 c.f5.length c1, .bool c.f6] 25)).heap.size by simp) ((Below.refl (w1.alloc (.cells #[.int .u64 c.f0, .int .u64 c.f1, .int .u64 c.f2, .int .u64 c.f3, .int .u64 c.f4, .slice A1 c.f5.length c1, .bool c.f6] 25)).heap.size (w1.alloc (.cells #[.int .u64 c.f0, .int .u64 c.f1, .int .u64 c.f2, .int .u64 c.f3, .int .u64 c.f4, .slice A1 c.f5.length c1, .bool c.f6] 25))).alloc (Nat.le_refl _) (.cells #[.int .u64 0, .int .u64 0, .int .u64 0, .int .u64 0, .int .u64 0, .slice none 0 0, .bool false] 25)); have HB := Aside0.mk hal2; have HK := Aside0.mk (blk_below (blk_new w1 (.cells #[.int .u64 c.f0, .int .u64 c.f1, .int .u64 c.f2, .int .u64 c.f3, .int .u64 c.f4, .slice A1 c.f5.length c1, .bool c.f6] 25)) ((Below.refl (w1.alloc (.cells #[.int .u64 c.f0, .int .u64 c.f1, .int .u64 c.f2, .int .u64 c.f3, .int .u64 c.f4, .slice A1 c.f5.length c1, .bool c.f6] 25)).heap.size (w1.alloc (.cells #[.int .u64 c.f0, .int .u64 c.f1, .int .u64 c.f2, .int .u64 c.f3, .int .u64 c.f4, .slice A1 c.f5.length c1, .bool c.f6] 25))).alloc (Nat.le_refl _) (.cells #[.int .u64 0, .int .u64 0, .int .u64 0, .int .u64 0, .int .u64 0, .slice none 0 0, .bool false] 25))); have HK5 := Aside0.mk (blk_new2 w1 (.cells #[.int .u64 c.f0, .int .u64 c.f1, .int .u64 c.f2, .int .u64 c.f3, .int .u64 c.f4, .slice A1 c.f5.length c1, .bool c.f6] 25) (.cells #[.int .u64 0, .int .u64 0, .int .u64 0, .int .u64 0, .int .u64 0, .slice none 0 0, .bool false] 25)); refine (ledger_Where.calls k A0 c0 l hold q1 q2 _ (Kd.C_below HR0.out HB.out) HC0.out HF1.out).mono ?_; rintro e w2 ⟨rfl, hb⟩; clear HF1; replace HB := Aside0.mk (below_then HB.out HB.out.size hb); replace HK := Aside0.mk (blk_below HK.out hb); replace HK5 := Aside0.mk (blk_below HK5.out hb); replace hb2 := (HB.out.cell hlt2).trans hb2; replace hb3 := (HB.out.cell hlt3).trans hb3; obtain ⟨hz0, hz1, hz2, hz3, hz4, hz5, hz6, hz7, hz8, hz9, hz10, hz11, hz12, hz13⟩ := cz7_ HK.out; obtain ⟨hy0, hy1, hy2, hy3, hy4, hy5, hy6, hy7, hy8, hy9, hy10, hy11, hy12, hy13⟩ := cz7_ HK5.out; clear hal hal2 hb) | (go_at_call 23; refine (channel_Hold.calls k c.f0 c.f1 c.f2 c.f3 c.f4 A1 c1 c.f5 c.f6 hold n r1 r2 r3 r4 r5 r6 r7 r8 _ (Kd.C_below HI5.out HB.out) HL5.out HF2.out).mono ?_; rintro e w3 ⟨v5, rfl, ho, hb⟩; clear HF2; obtain ⟨An, cn, hv⟩ := Kd.R_slice ho; subst hv; have HR := Aside0.mk (Kd.R_bound ho); have HS := Aside0.mk (blk_lt HK5.out); clear hz0 hz1 hz2 hz3 hz4 hz5 hz6 hz7 hz8 hz9 hz10 hz11 hz12 hz13 hy0 hy1 hy2 hy3 hy4 hy5 hy6 hy7 hy8 hy9 hy10 hy11 hy12 hy13; replace HB := Aside0.mk (below_then HB.out HB.out.size hb); replace HK := Aside0.mk (blk_below HK.out hb); replace HK5 := Aside0.mk (blk_below HK5.out hb); obtain ⟨hz0, hz1, hz2, hz3, hz4, hz5, hz6, hz7, hz8, hz9, hz10, hz11, hz12, hz13⟩ := cz7_ HK.out; obtain ⟨hy0, hy1, hy2, hy3, hy4, hy5, hy6, hy7, hy8, hy9, hy10, hy11, hy12, hy13⟩ := cz7_ HK5.out; clear ho hb))
    have hR7 := put7_R (w := w3) (g := w1.heap.size + 1) (c := (⟨r1, r2, r3, r4, r5, r6, r7⟩ : S25)) (v := .slice An r6.length cn) HR.out (fun k_ hk => by have := HS.out; omega)
    refine bodyPost_ret (results_ct rfl _ _ (w1.heap.size + 1) 25 #[.int .u64 r1, .int .u64 r2, .int .u64 r3, .int .u64 r4, .int .u64 r5, .slice An r6.length cn, .bool r7] (0, 0) _ rfl (put7_self (w := w3) (c := (⟨r1, r2, r3, r4, r5, r6, r7⟩ : S25)) (v := .slice An r6.length cn) HK5.out) Try.underlying25 rfl (by kernel_rfl)) rfl ?_
    exact ⟨_, _, rfl, fun _ => ⟨An, cn, rfl, (Kd.R_reads' hR7).2.1, (Kd.R_reads' hR7).2.2, row44_of_R hR7 (by have := HS.out; omega)⟩, put7_below (c := (⟨r1, r2, r3, r4, r5, r6, r7⟩ : S25)) (v := .slice An r6.length cn) HB.out (Nat.le_succ _)⟩
/-- Three boxes at once. -/
theorem boxes3 (w : World) (v1 v2 v3 : Value) (t1 t2 t3 : TypeId) : Below w.heap.size w (((w.alloc (.cells #[v1] t1)).alloc (.cells #[v2] t2)).alloc (.cells #[v3] t3)) ∧
    (((w.alloc (.cells #[v1] t1)).alloc (.cells #[v2] t2)).alloc (.cells #[v3] t3)).cell? ⟨w.heap.size, 0, none⟩ = some v1 ∧
    (((w.alloc (.cells #[v1] t1)).alloc (.cells #[v2] t2)).alloc (.cells #[v3] t3)).cell? ⟨w.heap.size + 1, 0, none⟩ = some v2 ∧
    (((w.alloc (.cells #[v1] t1)).alloc (.cells #[v2] t2)).alloc (.cells #[v3] t3)).cell? ⟨w.heap.size + 2, 0, none⟩ = some v3 := by
  have b1 := (Below.refl w.heap.size w).alloc (Nat.le_refl _) (.cells #[v1] t1)
  have b2 := b1.alloc b1.size (.cells #[v2] t2)
  have b3 := b2.alloc b2.size (.cells #[v3] t3)
  have s1 : (w.alloc (.cells #[v1] t1)).heap.size = w.heap.size + 1 := by simp
  have s2 : ((w.alloc (.cells #[v1] t1)).alloc (.cells #[v2] t2)).heap.size = w.heap.size + 2 := by simp
  have k1 := blk_new w (.cells #[v1] t1)
  have k1' := blk_below k1 ((Below.refl _ (w.alloc (.cells #[v1] t1))).alloc (Nat.le_refl _) (.cells #[v2] t2))
  have c2 := (Below.refl _ ((w.alloc (.cells #[v1] t1)).alloc (.cells #[v2] t2))).alloc (Nat.le_refl _) (.cells #[v3] t3)
  have k1'' := blk_below k1' c2
  have k2 := blk_new2 w (.cells #[v1] t1) (.cells #[v2] t2)
  have k2' := blk_below k2 c2
  have k3 := blk_new ((w.alloc (.cells #[v1] t1)).alloc (.cells #[v2] t2)) (.cells #[v3] t3)
  rw [s2] at k3
  exact ⟨b3, (blk_cell k1'' 0).trans rfl, (blk_cell k2' 0).trans rfl, (blk_cell k3 0).trans rfl⟩
def ledger_Hold.g (k : Nat) (l : List S25) (id hold n : Int) : Option (List S25 × Int) := ledger_change.g k l id (ledger_Hold.how k l hold n)
set_option maxHeartbeats 16000000 in
set_option maxRecDepth 100000 in
theorem ledger_Hold.callsS (k : Nat) (A0 : Option Addr) (c0 : Nat) (l : List S25) (id hold n : Int) (r : List S25) (er : Int) (w : World) (hr0 : Kd.C k25 w A0 l.length l) (hc0 : l.length ≤ c0) (h : ledger_Hold.g k l id hold n = some (r, er)) :
    Calls Try.prog 57 #[.slice A0 l.length c0, .int .u64 id, .int .u64 hold, .int .u64 n] w fun e w' => ∃ v : Value, e = .returned (.tuple #[v, .int .i64 er]) ∧ Own25 w' w.heap.size v r ∧ Below w.heap.size w w' := by
  have HF := Aside0.mk h
  have HR0 := Aside0.mk hr0
  have HC0 := Aside0.mk hc0
  have HX := Aside0.mk (boxes3 w (.slice A0 l.length c0) (.int .u64 hold) (.int .u64 n) 47 22 22)
  clear hr0 hc0 h
  go_enter Try.func57, Try.ntmps57
  go_wp2_with (go_at_call 110; go_loud (refine (ledger_change.callsS_111 k A0 c0 l id (.pointer (some ⟨w.heap.size, 0, none⟩)) (.pointer (some ⟨w.heap.size + 1, 0, none⟩)) (.pointer (some ⟨w.heap.size + 2, 0, none⟩)) (ledger_Hold.how k l hold n) r er _ (Kd.C_below HR0.out HX.out.1) HC0.out (ledger_Hold.hows k A0 c0 l hold n w.heap.size (w.heap.size + 1) (w.heap.size + 2) _ (Kd.C_below HR0.out HX.out.1) HC0.out HX.out.2.1 HX.out.2.2.1 HX.out.2.2.2) HF.out).mono ?_; rintro e w1 ⟨v, rfl, ho, hb⟩; have HB := Aside0.mk (below_then HX.out.1 HX.out.1.size hb); have HO := Aside0.mk (ho.lower HX.out.1.size); clear HX ho hb))
  go_ret2
  exact ⟨_, rfl, HO.out, HB.out⟩
theorem ledger_Hold.mono_how (l : List S25) (hold n : Int) (c : S25) (k : Nat) : LeO (ledger_Hold.how k l hold n c) (ledger_Hold.how (k + 1) l hold n c) := by
  unfold ledger_Hold.how
  repeat' first
    | (with_reducible exact LeO.refl _)
    | apply ledger_Where.mono
    | apply channel_Hold.mono
    | (with_reducible refine LeO.ite ?_ ?_)
    | (with_reducible refine LeO.bind ?_ (fun _ => ?_))
theorem ledger_Hold.mono_g (l : List S25) (id hold n : Int) (k : Nat) : LeO (ledger_Hold.g k l id hold n) (ledger_Hold.g (k + 1) l id hold n) := ledger_change.mono_g l id _ _ (fun c => ledger_Hold.mono_how l hold n c k) k

/-! ### damsonlaw10_live: function 44 (by hand) -/
theorem nil25 (w : World) : Kd.C k25 w none 0 [] := Kd.C_nil k25 w
theorem nil44 (w : World) : Kd.C k44 w none 0 [] := Kd.C_nil k44 w
def damsonlaw10_live.f (k : Nat) : Option Bool := (ledger_Open.g k [] (⟨1, 10, 0, 0, 10, [], true⟩ : S25)).bind fun p1 => if p1.2 = 0 then (ledger_Open.g k p1.1 (⟨2, 10, 0, 0, 10, [], true⟩ : S25)).bind fun p2 => if p2.2 = 0 then (ledger_Hold.g k p2.1 1 7 3).bind fun p3 => if p3.2 = 0 then (ledger_Hold.g k p3.1 2 7 3).bind fun p4 => if p4.2 = 6 then some true else none else none else none else none
set_option maxHeartbeats 16000000 in
set_option maxRecDepth 100000 in
theorem damsonlaw10_live.calls (k : Nat) (r : Bool) (w : World) (h : damsonlaw10_live.f k = some r) :
    Calls Try.prog 44 #[] w fun e w' => e = .returned (.bool r) ∧ Below w.heap.size w w' := by
  unfold damsonlaw10_live.f at h
  obtain ⟨⟨l1, e1⟩, h1, h_⟩ := Option.bind_eq_some_iff.mp h
  replace h := h_
  clear h_
  have HF1 := Aside0.mk h1
  clear h1
  try dsimp only at h
  by_cases he : e1 = 0
  case neg => rw [if_neg he] at h; cases h
  subst he
  rw [if_pos rfl] at h
  try dsimp only at h
  obtain ⟨⟨l2, e2⟩, h1, h_⟩ := Option.bind_eq_some_iff.mp h
  replace h := h_
  clear h_
  have HF2 := Aside0.mk h1
  clear h1
  try dsimp only at h
  by_cases he : e2 = 0
  case neg => rw [if_neg he] at h; cases h
  subst he
  rw [if_pos rfl] at h
  try dsimp only at h
  obtain ⟨⟨l3, e3⟩, h1, h_⟩ := Option.bind_eq_some_iff.mp h
  replace h := h_
  clear h_
  have HF3 := Aside0.mk h1
  clear h1
  try dsimp only at h
  by_cases he : e3 = 0
  case neg => rw [if_neg he] at h; cases h
  subst he
  rw [if_pos rfl] at h
  try dsimp only at h
  obtain ⟨⟨l4, e4⟩, h1, h_⟩ := Option.bind_eq_some_iff.mp h
  replace h := h_
  clear h_
  have HF4 := Aside0.mk h1
  clear h1
  try dsimp only at h
  by_cases he : e4 = 6
  case neg => rw [if_neg he] at h; cases h
  subst he
  rw [if_pos rfl] at h
  try dsimp only at h
  injection h with h
  subst h
  go_enter Try.func44, Try.ntmps44
  go_wp2_with (first | (go_at_call 46; refine (ledger_Open.callsS k none 0 [] (⟨1, 10, 0, 0, 10, [], true⟩ : S25) none 0 l1 0 _ (nil25 _) (Nat.le_refl _) (nil44 _) (Nat.le_refl _) HF1.out).mono ?_; rintro e w1 ⟨v, rfl, ho, hb⟩; clear HF1; have HB := Aside0.mk hb; obtain ⟨A1, c1, hv, hc, hC⟩ := ho.reads; subst hv; have HC1 := Aside0.mk hc; have HR1 := Aside0.mk hC; clear ho hb hc hC) | (go_at_call 46; refine (ledger_Open.callsS k A1 c1 l1 (⟨2, 10, 0, 0, 10, [], true⟩ : S25) none 0 l2 0 _ HR1.out HC1.out (nil44 _) (Nat.le_refl _) HF2.out).mono ?_; rintro e w2 ⟨v, rfl, ho, hb⟩; clear HF2; replace HB := Aside0.mk (below_then HB.out HB.out.size hb); obtain ⟨A2, c2, hv, hc, hC⟩ := ho.reads; subst hv; have HC2 := Aside0.mk hc; have HR2 := Aside0.mk hC; clear ho hb hc hC) | (go_at_call 57; refine (ledger_Hold.callsS k A2 c2 l2 1 7 3 l3 0 _ HR2.out HC2.out HF3.out).mono ?_; rintro e w3 ⟨v, rfl, ho, hb⟩; clear HF3; replace HB := Aside0.mk (below_then HB.out HB.out.size hb); obtain ⟨A3, c3, hv, hc, hC⟩ := ho.reads; subst hv; have HC3 := Aside0.mk hc; have HR3 := Aside0.mk hC; clear ho hb hc hC) | (go_at_call 57; refine (ledger_Hold.callsS k A3 c3 l3 2 7 3 l4 6 _ HR3.out HC3.out HF4.out).mono ?_; rintro e w4 ⟨v, rfl, ho, hb⟩; clear HF4; replace HB := Aside0.mk (below_then HB.out HB.out.size hb); obtain ⟨A4, c4, hv, hc, hC⟩ := ho.reads; subst hv; have HC4 := Aside0.mk hc; have HR4 := Aside0.mk hC; clear ho hb hc hC))
  go_ret
  exact ⟨rfl, HB.out⟩
theorem damsonlaw10_live.mono : ∀ k, LeO (damsonlaw10_live.f k) (damsonlaw10_live.f (k + 1)) := by
  intro k
  unfold damsonlaw10_live.f
  repeat' first
    | (with_reducible exact LeO.refl _)
    | apply ledger_Open.mono_g
    | apply ledger_Hold.mono_g
    | (with_reducible refine LeO.ite ?_ ?_)
    | (with_reducible refine LeO.bind ?_ (fun _ => ?_))

/-! ### damsonref10_Few: function 45 -/
def damsonref10_Few.l0 : Nat → List (S25) → List (S25) → Int → Int → Option (Bool)
  | 0, _, _, _, _ => none
  | k + 1, x0, x5, x6, x7 => if x7 < x6 then (if 0 ≤ x7 then (if x7 < (x5.length : Int) then (if (((rd_T25 x5 x7).f5).length : Int) > 20 then (some false) else (damsonref10_Few.l0 k x0 x5 x6 (wrap64 (x7 + 1)))) else (none)) else (none)) else (some (decide ((x0.length : Int) ≤ 34)))
def damsonref10_Few.f (k : Nat) (l0 : List (S25)) : Option (Bool) := damsonref10_Few.l0 k l0 l0 (l0.length : Int) 0
theorem damsonref10_Few.mono_l : ∀ k, (∀ y0 y1 y2 y3, LeO (damsonref10_Few.l0 k y0 y1 y2 y3) (damsonref10_Few.l0 (k + 1) y0 y1 y2 y3))
  | 0 => fun _ _ _ _ r h => by simp [damsonref10_Few.l0] at h
  | k + 1 => by
    have ih0 := damsonref10_Few.mono_l k
    · intro y0 y1 y2 y3
      unfold damsonref10_Few.l0
      repeat' first
      | (with_reducible exact ih0 _ _ _ _)
      | (with_reducible exact LeO.refl _)
      | (with_reducible exact LeO.none _)
      | (with_reducible refine LeO.ite ?_ ?_)
      | (with_reducible refine LeO.bind ?_ (fun _ => ?_))
      | exact ih0 _ _ _ _
      | exact LeO.none _
      | refine LeO.ite ?_ ?_
      | refine LeO.bind ?_ (fun _ => ?_)
theorem damsonref10_Few.mono : ∀ a0 k, LeO (damsonref10_Few.f k a0) (damsonref10_Few.f (k + 1) a0) := by
  intro a0 k
  have ih0 := damsonref10_Few.mono_l k
  unfold damsonref10_Few.f
  repeat' first
      | (with_reducible exact ih0 _ _ _ _)
      | (with_reducible exact LeO.refl _)
      | (with_reducible exact LeO.none _)
      | (with_reducible refine LeO.ite ?_ ?_)
      | (with_reducible refine LeO.bind ?_ (fun _ => ?_))
      | exact ih0 _ _ _ _
      | exact LeO.none _
      | refine LeO.ite ?_ ?_
      | refine LeO.bind ?_ (fun _ => ?_)
set_option maxHeartbeats 8000000 in
set_option maxRecDepth 100000 in
theorem damsonref10_Few.calls (k : Nat) (A0 : Option Addr) (c0 : Nat) (l0 : List (S25)) (r : Bool) (w : World) (hr0 : Kd.C k25 w A0 l0.length l0) (hc0 : l0.length ≤ c0) (h : damsonref10_Few.f k l0 = some r) :
    Calls Try.prog 45 #[.slice A0 l0.length c0] w fun e w' => e = .returned (.bool r) ∧ Below w.heap.size w w' := by
  have hu25 := Try.underlying25
  have HR0 := Aside0.mk hr0
  have HC0 := Aside0.mk hc0
  clear hr0 hc0
  have HB := Aside0.mk (Below.refl w.heap.size w)
  have H : (damsonref10_Few.l0 k l0 l0 (l0.length : Int) 0) = some r := h
  clear h
  have H' := Aside0.mk H
  clear H
  go_enter Try.func45, Try.ntmps45
  go_wp2
  go_loopg [7] k (fun kq v7 w' => ∃ (x7_1 : Int), v7 = .int .i64 x7_1 ∧ Aside0 (damsonref10_Few.l0 kq l0 l0 (l0.length : Int) x7_1 = some r) ∧ Aside0 (kq ≤ k) ∧ Aside0 (Below w.heap.size w w'))
  case atStart => exact ⟨(0), (by first | rfl | (simp; done) | (simp [*]; done)), H', ⟨Nat.le_refl _⟩, ⟨by repeat (first | (with_reducible first | exact HB.out | apply below_alloc | apply pw_below_drewN | apply below_drew1) | exact HB.out)⟩⟩
  case round =>
    clear H'
    obtain ⟨x7_1, rfl, HA, HK1, HB⟩ := hrel
    cases gk with
    | zero => exact absurd HA.out (by simp [damsonref10_Few.l0])
    | succ k1 =>
      have H := HA.out
      clear HA
      simp only [damsonref10_Few.l0] at H
      by_cases c2 : x7_1 < (l0.length : Int)
      · rw [if_pos c2] at H
        have c2b0 : decide (x7_1 < (l0.length : Int)) = true := decide_eq_true c2
        clear c2
        by_cases c3 : 0 ≤ x7_1
        · rw [if_pos c3] at H
          have c3b0 : decide (0 ≤ x7_1) = true := decide_eq_true c3
          clear c3
          by_cases c4 : x7_1 < (l0.length : Int)
          · rw [if_pos c4] at H
            have c4b0 : decide (x7_1 < (l0.length : Int)) = true := decide_eq_true c4
            clear c4
            by_cases c5 : (((rd_T25 l0 x7_1).f5).length : Int) > 20
            · rw [if_pos c5] at H
              have c5b0 : decide (20 < (((rd_T25 l0 x7_1).f5).length : Int)) = true := decide_eq_true c5
              have c5b1 : decide (20 < ((rd_T25 l0 x7_1).f5).length) = true := decide_eq_true (by omega)
              clear c5
              obtain rfl := Option.some.inj H
              have p175 : 0 ≤ (x7_1 : Int) := of_decide_eq_true (by first | (with_reducible assumption) | assumption)
              have q175 : x7_1 < (l0.length : Int) := of_decide_eq_true (by first | (with_reducible assumption) | assumption)
              obtain ⟨ad175, A175_5, c175_5, e175, hx175_0, hx175_1, hx175_2, hx175_3, hx175_4, hx175_5, hx175_6, hl175_5, hi175_5⟩ := at_T25 HR0.out x7_1 p175 q175
              cases e175
              replace hx175_0 := (HB.out.cell (World.block_lt_of_cell? w _ hx175_0)).trans hx175_0
              replace hx175_1 := (HB.out.cell (World.block_lt_of_cell? w _ hx175_1)).trans hx175_1
              replace hx175_2 := (HB.out.cell (World.block_lt_of_cell? w _ hx175_2)).trans hx175_2
              replace hx175_3 := (HB.out.cell (World.block_lt_of_cell? w _ hx175_3)).trans hx175_3
              replace hx175_4 := (HB.out.cell (World.block_lt_of_cell? w _ hx175_4)).trans hx175_4
              replace hx175_5 := (HB.out.cell (World.block_lt_of_cell? w _ hx175_5)).trans hx175_5
              replace hx175_6 := (HB.out.cell (World.block_lt_of_cell? w _ hx175_6)).trans hx175_6
              have HR175_5 := Aside0.mk hi175_5
              have HC175_5 := Aside0.mk hl175_5
              clear hi175_5 hl175_5
              replace p175 := eq_true p175
              replace q175 := eq_true q175
              go_wp2_with (first | ((with_reducible refine gate_dst (N := 4) rfl ?_); refine box_event ?hg (N := 4) ?hd (cs := #[.int .u64 0, .int .u64 0, .int .u64 0, .int .u64 0, .int .u64 0, .slice none 0 0, .bool false]) (t := 25) ?hr ?_; (case hd => rfl); (case hg => rfl); (case hr => first | (go_simp; done) | (go_simp; rfl)); intro gb176 hg w6 hbox hb; have n0_ := Aside0.mk (below_step (belN HB) hb); have n1_ := Aside0.mk (hbox); have n2_ := Aside0.mk ((by rw [hg]; exact (below_size (belN HB)) : w.heap.size ≤ gb176)); have n3_ := Aside0.mk ((by rw [hg]; exact (below_size (belN HB)) : w.heap.size ≤ gb176)); clear HB; have HB := n0_; have BK176 := n1_; have GW176 := n2_; have GE176 := n3_; clear n0_ n1_ n2_ n3_; clear hb hbox hg; obtain ⟨hcz7_0, hcz7_1, hcz7_2, hcz7_3, hcz7_4, hcz7_5, hcz7_6, hfz7_0, hfz7_1, hfz7_2, hfz7_3, hfz7_4, hfz7_5, hfz7_6⟩ := cz7_ (w := w6) BK176.out))
              go_ret
              exact ⟨by first | rfl | (simp [errW_none, errW_some] <;> rfl) | (simp [*, errW_none, errW_some] <;> rfl), by repeat (first | (with_reducible first | exact HB.out | apply below_alloc | apply pw_below_drewN | apply below_drew1 | refine below_set ?_ GE176.out) | exact HB.out)⟩
            · rw [if_neg c5] at H
              have c5b0 : decide (20 < (((rd_T25 l0 x7_1).f5).length : Int)) = false := decide_eq_false c5
              have c5b1 : decide (20 < ((rd_T25 l0 x7_1).f5).length) = false := decide_eq_false (by omega)
              clear c5
              have H' := Aside0.mk H
              clear H
              have p175 : 0 ≤ (x7_1 : Int) := of_decide_eq_true (by first | (with_reducible assumption) | assumption)
              have q175 : x7_1 < (l0.length : Int) := of_decide_eq_true (by first | (with_reducible assumption) | assumption)
              obtain ⟨ad175, A175_5, c175_5, e175, hx175_0, hx175_1, hx175_2, hx175_3, hx175_4, hx175_5, hx175_6, hl175_5, hi175_5⟩ := at_T25 HR0.out x7_1 p175 q175
              cases e175
              replace hx175_0 := (HB.out.cell (World.block_lt_of_cell? w _ hx175_0)).trans hx175_0
              replace hx175_1 := (HB.out.cell (World.block_lt_of_cell? w _ hx175_1)).trans hx175_1
              replace hx175_2 := (HB.out.cell (World.block_lt_of_cell? w _ hx175_2)).trans hx175_2
              replace hx175_3 := (HB.out.cell (World.block_lt_of_cell? w _ hx175_3)).trans hx175_3
              replace hx175_4 := (HB.out.cell (World.block_lt_of_cell? w _ hx175_4)).trans hx175_4
              replace hx175_5 := (HB.out.cell (World.block_lt_of_cell? w _ hx175_5)).trans hx175_5
              replace hx175_6 := (HB.out.cell (World.block_lt_of_cell? w _ hx175_6)).trans hx175_6
              have HR175_5 := Aside0.mk hi175_5
              have HC175_5 := Aside0.mk hl175_5
              clear hi175_5 hl175_5
              replace p175 := eq_true p175
              replace q175 := eq_true q175
              go_wp2_with (first | ((with_reducible refine gate_dst (N := 4) rfl ?_); refine box_event ?hg (N := 4) ?hd (cs := #[.int .u64 0, .int .u64 0, .int .u64 0, .int .u64 0, .int .u64 0, .slice none 0 0, .bool false]) (t := 25) ?hr ?_; (case hd => rfl); (case hg => rfl); (case hr => first | (go_simp; done) | (go_simp; rfl)); intro gb176 hg w8 hbox hb; have n0_ := Aside0.mk (below_step (belN HB) hb); have n1_ := Aside0.mk (hbox); have n2_ := Aside0.mk ((by rw [hg]; exact (below_size (belN HB)) : w.heap.size ≤ gb176)); have n3_ := Aside0.mk ((by rw [hg]; exact (below_size (belN HB)) : w.heap.size ≤ gb176)); clear HB; have HB := n0_; have BK176 := n1_; have GW176 := n2_; have GE176 := n3_; clear n0_ n1_ n2_ n3_; clear hb hbox hg; obtain ⟨hcz9_0, hcz9_1, hcz9_2, hcz9_3, hcz9_4, hcz9_5, hcz9_6, hfz9_0, hfz9_1, hfz9_2, hfz9_3, hfz9_4, hfz9_5, hfz9_6⟩ := cz7_ (w := w8) BK176.out))
              go_roundg k1
              case measure => have := HK1.out; omega
              case rel => exact ⟨(wrap64 (x7_1 + 1)), (by first | rfl | (simp; done) | (simp [*]; done)), H', ⟨by have := HK1.out; omega⟩, ⟨by repeat (first | (with_reducible first | exact HB.out | apply below_alloc | apply pw_below_drewN | apply below_drew1 | refine below_set ?_ GE176.out) | exact HB.out)⟩⟩
          · rw [if_neg c4] at H
            exact absurd H (by simp)
        · rw [if_neg c3] at H
          exact absurd H (by simp)
      · rw [if_neg c2] at H
        have c2b0 : decide (x7_1 < (l0.length : Int)) = false := decide_eq_false c2
        clear c2
        obtain rfl := Option.some.inj H
        go_wp2
        go_ret
        exact ⟨by first | rfl | (simp [errW_none, errW_some] <;> rfl) | (simp [*, errW_none, errW_some] <;> rfl), by repeat (first | (with_reducible first | exact HB.out | apply below_alloc | apply pw_below_drewN | apply below_drew1) | exact HB.out)⟩

/-! ### slices_Delete_Hold: function 133 (by hand) -/
def slices_Delete_Hold.f (l0 : List (S44)) (a1 : Int) (a2 : Int) : Option (List (S44)) := if 0 ≤ a1 ∧ a1 < (l0.length : Int) ∧ a2 = wrap64 (a1 + 1) ∧ l0.length ≤ 140737488355328 then (some (l0.eraseIdx a1.toNat)) else (none)
set_option maxHeartbeats 8000000 in
set_option maxRecDepth 100000 in
theorem slices_Delete_Hold.calls (P0_ : Nat → Prop) (u9000_ : Value) (l0 : List (S44)) (a1 : Int) (a2 : Int) (r : List (S44)) (w0 w : World) (hB : Below w0.heap.size w0 w) (ho0 : Kd.R k44 44 w w0.heap.size P0_ u9000_ l0) (h : slices_Delete_Hold.f l0 a1 a2 = some r) :
    Calls Try.prog 133 #[u9000_, .int .i64 a1, .int .i64 a2] w fun e w' => ∃ v0_ : Value, e = .returned (v0_) ∧ Kd.R k44 44 w' w0.heap.size (fun k_ => (P0_ k_ ∨ w.heap.size ≤ k_)) v0_ r ∧ Below w0.heap.size w0 w' ∧ Kept w w' (fun k_ => P0_ k_) := by
  unfold slices_Delete_Hold.f at h
  by_cases hc : 0 ≤ a1 ∧ a1 < (l0.length : Int) ∧ a2 = wrap64 (a1 + 1) ∧ l0.length ≤ 140737488355328
  · rw [if_pos hc] at h
    obtain ⟨c1, c2, c3, c4⟩ := hc
    obtain rfl := Option.some.inj h
    clear h
    obtain ⟨i, rfl⟩ := Int.eq_ofNat_of_zero_le c1
    have hi : i < l0.length := by omega
    have c5 : a2 = (i : Int) + 1 := by rw [c3]; unfold wrap64; omega
    subst c5
    rw [Int.toNat_natCast]
    obtain ⟨i0, hi0, _, hsz0, _⟩ := info_parts info44
    have hsz : Kd.sz k44 = 2 := rfl
    have ho := ho0
    obtain ⟨hb0, in0, hown0, hr0⟩ := ho0
    obtain ⟨n, hn⟩ : ∃ n, n = l0.length := ⟨_, rfl⟩
    rcases hown0 with ⟨hl0, ⟨rfl, h0⟩ | ⟨g, cap, cur, rfl, hgb, hg, hnc, hcm, hcs, hct⟩⟩
    · omega
    · have hA : (if cap = i + 1 then some (⟨g, 0, none⟩ : Addr) else some ⟨g, (i + 1) * 2, none⟩) = if cap = i + 1 then some ⟨g, 0, none⟩ else (some (⟨g, 0, none⟩ : Addr)).map (·.add ((i + 1) * Kd.sz k44)) := by
        split
        · rfl
        · simp [hsz, Addr.add]
      obtain ⟨w1, hrun, hR1, hgr1⟩ := Kd.R_delete_run (P := Try.prog) k44 w0.heap.size 23 23 44 i0 Try.underlying23 hi0 (by rw [hsz0]; rfl) (W := w.drew) (Kd.R_drew ho) hi hA (cap - (i + 1))
      have hR1' := hR1
      obtain ⟨_, in1, hown1, _⟩ := hR1'
      rcases hown1 with ⟨hl1, ⟨e1, _⟩ | ⟨g1, cap1, cur1, e1, hgb1, hg1, hnc1, hcm1, hcs1, hct1⟩⟩
      · cases e1
      injection e1 with e1 _ e2
      injection e1 with e1
      injection e1 with e1
      subst e1; subst e2
      obtain ⟨zs, hzs⟩ : ∃ zs, zs = (Builtin.zeroCells ((.agg #[(.int .u64 0), (.int .u64 0)]) : Value).cells 1).toList := ⟨_, rfl⟩
      have hzl : zs.length = 2 := by rw [hzs]; simp [Builtin.zeroCells, Value.cells]
      have hz1 : ∀ v ∈ zs, v.oneCell' = true := by
        have hall : (Builtin.zeroCells ((.agg #[(.int .u64 0), (.int .u64 0)]) : Value).cells 1).toList.all (fun v => v.oneCell') = true := by simp [Builtin.zeroCells, Value.cells]; decide
        rw [hzs]; exact List.all_eq_true.1 hall
      have hzv : ∀ w, (zeroValue 44).run Try.prog w = .ok ((.agg #[(.int .u64 0), (.int .u64 0)])) w := fun _ => by kernel_rfl
      obtain ⟨cur2, hcur2⟩ : ∃ cur2, cur2 = (cur1.toList.take ((l0.length - 1) * 2) ++ zs ++ cur1.toList.drop ((l0.length - 1) * 2 + zs.length)).toArray := ⟨_, rfl⟩
      rw [hsz] at hcs1
      have hclr : ∀ ty c, (Builtin.clear_ #[23] ty #[.slice (some ⟨g, (l0.length - 1) * 2, none⟩) 1 c]).run Try.prog w1 = .ok (.tuple #[]) (w1.setRow g cur2) := fun ty c => by
        rw [hcur2]
        exact run_clear_rowK w1 23 44 ty _ Try.underlying23 hzv g ((l0.length - 1) * 2) 1 c (by omega) cur1 44 hg1 zs hzs (by rw [hzl, hcs1]; omega) hz1
      have hc2s : cur2.size = cur1.size := by have hq := Array.length_toList (xs := cur1); rw [hcur2]; simp only [List.size_toArray, List.length_append, List.length_take, List.length_drop]; omega
      have hc2t : cur2.toList.take ((l0.length - 1) * Kd.sz k44) = cur1.toList.take ((l0.length - 1) * Kd.sz k44) := by
        rw [hsz, hcur2]
        show List.take _ (List.take _ cur1.toList ++ zs ++ _) = _
        rw [List.append_assoc, List.take_append_of_le_length (by rw [List.length_take, Array.length_toList (xs := cur1)]; omega), List.take_take, Nat.min_self]
      have hR2 := Kd_R_past hR1 hg1 hc2s hc2t
      have hgr : w.grownBy (w1.setRow g cur2) (some g) := grown_trans (show w.grownBy w1 (some g) from ⟨hgr1.os, hgr1.tape, hgr1.output, hgr1.size, hgr1.block⟩) (grown_setRow w1 g cur2)
      have hBf : Below w0.heap.size w0 (w1.setRow g cur2) := hB.grown hgr hB.size (fun k hk => by injection hk with hk; omega)
      have hKf : Kept w (w1.setRow g cur2) (fun k_ => P0_ k_) := Kept.of_grown (S := fun k_ => P0_ k_) hgr (Kept.refl w _) (fun k_ e_ => .inl (hb0 k_ e_))
      have hRf := Kd.R_mono (ok' := fun k_ => P0_ k_ ∨ w.heap.size ≤ k_) hR2 (fun k_ hk => .inl hk)
      rw [← hn] at hi hnc hrun hclr hRf ⊢
      unfold maxLen at hcm
      have q1 : (0 : Int) ≤ (i : Int) := by omega
      have q2 : (0 : Int) ≤ (i : Int) + 1 := by omega
      have q3 : (i : Int) + 1 ≤ (n : Int) := by omega
      have q4 : (i : Int) ≤ (i : Int) + 1 := by omega
      have q5 : (i : Int) ≤ (n : Int) := by omega
      have q6 : ((i : Int) + 1).toNat = i + 1 := by omega
      have q7 : ¬ ((i : Int) = (i : Int) + 1) := by omega
      have q8 : ¬ (cap = n - 1) := by omega
      have q9 : ¬ (n = i) := by omega
      have q10 : n - (n - 1) = 1 := by omega
      have q11 : (i : Int) ≤ (cap : Int) := by omega
      have q12 : ((n - 1 : Nat) : Int) ≤ (n : Int) := by omega
      have q13 : (n : Int) ≤ (cap : Int) := by omega
      have q14 : i ≤ n := by omega
      clear hcur2 hc2s hc2t hR2 hgr hR1 hgr1 hg1 hcs1 hct1 hl1 hzs hzl hz1 hg hcs hct hl0 hr0 ho hb0 c1 c2 c3 c4 hn hA
      by_cases q15 : cap = i + 1
      · subst q15
        have q16 : n - (i + 1) = 0 := by omega
        go_enter Try.func133, Try.ntmps133
        go_wp2
        go_region_law (refine step_append_run rfl _ _ 23 23 rfl _ _ (by simp [Act.eval, Act.put, q16]) (by simp [Act.eval, Act.put, q16]) (hrun) ?_)
        go_wp2_with (at_builtin; refine wpList_clear_run _ rfl _ 23 rfl _ rfl (hclr _ _) ?_)
        go_ret
        exact ⟨_, rfl, hRf, hBf, hKf⟩
      · skip
        go_enter Try.func133, Try.ntmps133
        go_wp2
        go_region_law (refine step_append_run rfl _ _ 23 23 rfl _ _ (by simp [Act.eval, Act.put, q15]) (by simp [Act.eval, Act.put, q15]) (hrun) ?_)
        go_wp2_with (at_builtin; refine wpList_clear_run _ rfl _ 23 rfl _ rfl (hclr _ _) ?_)
        go_ret
        exact ⟨_, rfl, hRf, hBf, hKf⟩
  · rw [if_neg hc] at h
    exact absurd h (by simp)

-- NOT PRINTED: function 90 (channel_end)

/-! ### channel_Fail_1: function 91 (by hand) -/
def channel_Fail_1.f : Option (Unit) := some ()
theorem channel_Fail_1.calls {g : Nat} (w : World) (h : channel_Fail_1.f = some ()) :
    Calls Try.prog 91 #[.pointer (some ⟨g, 0, none⟩)] w fun e w' => e = .returned (.pointer (some ⟨g, 1, none⟩)) ∧ Drawn0 w w' := by
  go_enter Try.func91, Try.ntmps91
  go_wp2
  go_ret
  exact ⟨rfl, 0, rfl⟩

/-! ### channel_end_at_channel_Fail_1: function 165 -/
def channel_end_at_channel_Fail_1.f (k : Nat) (a0_0 : Int) (a0_1 : Int) (a0_2 : Int) (a0_3 : Int) (a0_4 : Int) (l0_5 : List (S44)) (a0_6 : Bool) (a1 : Int)  : Option (Int × Int × Int × Int × Int × (List (S44)) × Bool × Int × Int) := (channel_Check.f k a0_0 a0_1 a0_2 a0_3 a0_4 l0_5 a0_6).bind fun t179 => (if t179 = 0 then ((slices_BinarySearchFunc_uint64_at_channel_order.f k l0_5 a1).bind fun bt180 => (if bt180.2 = true then (if 0 ≤ bt180.1 then (if bt180.1 < (l0_5.length : Int) then ((slices_Clone_Hold.f l0_5).bind fun t183 => ((slices_Delete_Hold.f t183 bt180.1 (wrap64 (bt180.1 + 1))).bind fun t186 => ((channel_Fail_1.f).bind fun _ => (some (a0_0, IntKind.u64.wrap (a0_1 + ((rd_T44 l0_5 bt180.1).f1)), a0_2, a0_3, a0_4, t186, a0_6, (rd_T44 l0_5 bt180.1).f1, 0))))) else (none)) else (none)) else (some (0, 0, 0, 0, 0, ([] : List (S44)), false, 0, 5)))) else (some (0, 0, 0, 0, 0, ([] : List (S44)), false, 0, t179)))
theorem channel_end_at_channel_Fail_1.mono : ∀ a0 a1 a2 a3 a4 a5 a6 a7 k, LeO (channel_end_at_channel_Fail_1.f k a0 a1 a2 a3 a4 a5 a6 a7) (channel_end_at_channel_Fail_1.f (k + 1) a0 a1 a2 a3 a4 a5 a6 a7) := by
 intro a0 a1 a2 a3 a4 a5 a6 a7 k
 unfold channel_end_at_channel_Fail_1.f
 repeat' first
   | (with_reducible exact channel_Check.mono _ _ _ _ _ _ _ _)
   | (with_reducible exact slices_BinarySearchFunc_uint64_at_channel_order.mono _ _ _)
   | (with_reducible exact LeO.refl _)
   | (with_reducible exact LeO.none _)
   | (with_reducible refine LeO.ite ?_ ?_)
   | (with_reducible refine LeO.bind ?_ (fun _ => ?_))
   | exact channel_Check.mono _ _ _ _ _ _ _ _
   | exact slices_BinarySearchFunc_uint64_at_channel_order.mono _ _ _
   | exact LeO.none _
   | refine LeO.ite ?_ ?_
   | refine LeO.bind ?_ (fun _ => ?_)
set_option maxHeartbeats 8000000 in
set_option maxRecDepth 100000 in
theorem channel_end_at_channel_Fail_1.calls (k : Nat) (a0_0 : Int) (a0_1 : Int) (a0_2 : Int) (a0_3 : Int) (a0_4 : Int) (A0_5 : Option Addr) (c0_5 : Nat) (l0_5 : List (S44)) (a0_6 : Bool) (a1 : Int)  (r1 : Int) (r2 : Int) (r3 : Int) (r4 : Int) (r5 : Int) (r6 : List (S44)) (r7 : Bool) (r8 : Int) (r9 : Int) (w : World) (hr0_5 : Kd.C k44 w A0_5 l0_5.length l0_5) (hc0_5 : l0_5.length ≤ c0_5) (h : channel_end_at_channel_Fail_1.f k a0_0 a0_1 a0_2 a0_3 a0_4 l0_5 a0_6 a1 = some (r1, r2, r3, r4, r5, r6, r7, r8, r9)) :
  Calls Try.prog 90 #[.agg #[.int .u64 a0_0, .int .u64 a0_1, .int .u64 a0_2, .int .u64 a0_3, .int .u64 a0_4, .slice A0_5 l0_5.length c0_5, .bool a0_6], .int .u64 a1, .func (.func 91) #[] #[]] w fun e w' => ∃ v5_ : Value, e = .returned (.tuple #[.agg #[.int .u64 r1, .int .u64 r2, .int .u64 r3, .int .u64 r4, .int .u64 r5, v5_, .bool r7], .int .u64 r8, .int .i64 r9]) ∧ Kd.R k44 44 w' w.heap.size (fun _ => True) v5_ r6 ∧ Below w.heap.size w w' := by
 have hu25 := Try.underlying25
 have HR0_5 := Aside0.mk hr0_5
 have HC0_5 := Aside0.mk hc0_5
 clear hr0_5 hc0_5
 have HB := Aside0.mk (Below.refl w.heap.size w)
 have H : ((channel_Check.f k a0_0 a0_1 a0_2 a0_3 a0_4 l0_5 a0_6).bind fun t179 => (if t179 = 0 then ((slices_BinarySearchFunc_uint64_at_channel_order.f k l0_5 a1).bind fun bt180 => (if bt180.2 = true then (if 0 ≤ bt180.1 then (if bt180.1 < (l0_5.length : Int) then ((slices_Clone_Hold.f l0_5).bind fun t183 => ((slices_Delete_Hold.f t183 bt180.1 (wrap64 (bt180.1 + 1))).bind fun t186 => ((channel_Fail_1.f).bind fun _ => (some (a0_0, IntKind.u64.wrap (a0_1 + ((rd_T44 l0_5 bt180.1).f1)), a0_2, a0_3, a0_4, t186, a0_6, (rd_T44 l0_5 bt180.1).f1, 0))))) else (none)) else (none)) else (some (0, 0, 0, 0, 0, ([] : List (S44)), false, 0, 5)))) else (some (0, 0, 0, 0, 0, ([] : List (S44)), false, 0, t179)))) = some (r1, r2, r3, r4, r5, r6, r7, r8, r9) := h
 clear h
 replace H := Option.bind_eq_some_iff.mp H
 obtain ⟨t179, A40, H⟩ := H
 replace H : (if t179 = 0 then ((slices_BinarySearchFunc_uint64_at_channel_order.f k l0_5 a1).bind fun bt180 => (if bt180.2 = true then (if 0 ≤ bt180.1 then (if bt180.1 < (l0_5.length : Int) then ((slices_Clone_Hold.f l0_5).bind fun t183 => ((slices_Delete_Hold.f t183 bt180.1 (wrap64 (bt180.1 + 1))).bind fun t186 => ((channel_Fail_1.f).bind fun _ => (some (a0_0, IntKind.u64.wrap (a0_1 + ((rd_T44 l0_5 bt180.1).f1)), a0_2, a0_3, a0_4, t186, a0_6, (rd_T44 l0_5 bt180.1).f1, 0))))) else (none)) else (none)) else (some (0, 0, 0, 0, 0, ([] : List (S44)), false, 0, 5)))) else (some (0, 0, 0, 0, 0, ([] : List (S44)), false, 0, t179))) = some (r1, r2, r3, r4, r5, r6, r7, r8, r9) := H
 have A4 := Aside0.mk A40
 clear A40
 by_cases c5 : t179 = 0
 ·rw [if_pos c5] at H
  have c5b0 : (t179 == 0) = true := beq_iff_eq.mpr c5
  have c5b1 : (t179 != 0) = false := bne_eq_false_iff_eq.mpr c5
  clear c5
  replace H := Option.bind_eq_some_iff.mp H
  obtain ⟨⟨t180, t181⟩, A60, H⟩ := H
  replace H : (if t181 = true then (if 0 ≤ t180 then (if t180 < (l0_5.length : Int) then ((slices_Clone_Hold.f l0_5).bind fun t183 => ((slices_Delete_Hold.f t183 t180 (wrap64 (t180 + 1))).bind fun t186 => ((channel_Fail_1.f).bind fun _ => (some (a0_0, IntKind.u64.wrap (a0_1 + ((rd_T44 l0_5 t180).f1)), a0_2, a0_3, a0_4, t186, a0_6, (rd_T44 l0_5 t180).f1, 0))))) else (none)) else (none)) else (some (0, 0, 0, 0, 0, ([] : List (S44)), false, 0, 5))) = some (r1, r2, r3, r4, r5, r6, r7, r8, r9) := H
  have A6 := Aside0.mk A60
  clear A60
  by_cases c7 : t181 = true
  ·subst c7
   have H1 : (if 0 ≤ t180 then (if t180 < (l0_5.length : Int) then ((slices_Clone_Hold.f l0_5).bind fun t183 => ((slices_Delete_Hold.f t183 t180 (wrap64 (t180 + 1))).bind fun t186 => ((channel_Fail_1.f).bind fun _ => (some (a0_0, IntKind.u64.wrap (a0_1 + ((rd_T44 l0_5 t180).f1)), a0_2, a0_3, a0_4, t186, a0_6, (rd_T44 l0_5 t180).f1, 0))))) else (none)) else (none)) = some (r1, r2, r3, r4, r5, r6, r7, r8, r9) := by rw [if_pos rfl] at H; exact H
   clear H
   have H := H1
   clear H1
   by_cases c8 : 0 ≤ t180
   ·rw [if_pos c8] at H
    have c8b0 : decide (0 ≤ t180) = true := decide_eq_true c8
    clear c8
    by_cases c9 : t180 < (l0_5.length : Int)
    ·rw [if_pos c9] at H
     have c9b0 : decide (t180 < (l0_5.length : Int)) = true := decide_eq_true c9
     clear c9
     replace H := Option.bind_eq_some_iff.mp H
     obtain ⟨t183, A100, H⟩ := H
     replace H : ((slices_Delete_Hold.f t183 t180 (wrap64 (t180 + 1))).bind fun t186 => ((channel_Fail_1.f).bind fun _ => (some (a0_0, IntKind.u64.wrap (a0_1 + ((rd_T44 l0_5 t180).f1)), a0_2, a0_3, a0_4, t186, a0_6, (rd_T44 l0_5 t180).f1, 0)))) = some (r1, r2, r3, r4, r5, r6, r7, r8, r9) := H
     have A10 := Aside0.mk A100
     clear A100
     replace H := Option.bind_eq_some_iff.mp H
     obtain ⟨t186, A110, H⟩ := H
     replace H : ((channel_Fail_1.f).bind fun _ => (some (a0_0, IntKind.u64.wrap (a0_1 + ((rd_T44 l0_5 t180).f1)), a0_2, a0_3, a0_4, t186, a0_6, (rd_T44 l0_5 t180).f1, 0))) = some (r1, r2, r3, r4, r5, r6, r7, r8, r9) := H
     have A11 := Aside0.mk A110
     clear A110
     replace H := Option.bind_eq_some_iff.mp H
     obtain ⟨_, A120, H⟩ := H
     replace H : (some (a0_0, IntKind.u64.wrap (a0_1 + ((rd_T44 l0_5 t180).f1)), a0_2, a0_3, a0_4, t186, a0_6, (rd_T44 l0_5 t180).f1, 0)) = some (r1, r2, r3, r4, r5, r6, r7, r8, r9) := H
     have A12 := Aside0.mk A120
     clear A120
     simp only [Option.some.injEq, Prod.mk.injEq] at H
     obtain ⟨rfl, rfl, rfl, rfl, rfl, rfl, rfl, rfl, rfl⟩ := H
     go_enter Try.func90, Try.ntmps90
     go_wp2_with (first | ((with_reducible refine gate_dst (N := 3) rfl ?_); refine box_event ?hg (N := 3) ?hd (cs := #[.int .u64 a0_0, .int .u64 a0_1, .int .u64 a0_2, .int .u64 a0_3, .int .u64 a0_4, .slice A0_5 l0_5.length c0_5, .bool a0_6]) (t := 25) ?hr ?_; (case hd => rfl); (case hg => rfl); (case hr => first | (go_simp; done) | (go_simp; rfl)); intro gb177 hg w13 hbox hb; have n0_ := Aside0.mk (below_step (belN HB) hb); have n1_ := Aside0.mk (hbox); have n2_ := Aside0.mk ((by rw [hg]; exact (below_size (belN HB)) : w.heap.size ≤ gb177)); have n3_ := Aside0.mk ((by rw [hg]; exact (below_size (belN HB)) : w.heap.size ≤ gb177)); clear HB; have HB := n0_; have BK177 := n1_; have GW177 := n2_; have GE177 := n3_; clear n0_ n1_ n2_ n3_; clear hb hbox hg) | ((with_reducible refine gate_dst (N := 6) rfl ?_); refine box_event ?hg (N := 6) ?hd (cs := #[.int .u64 0, .int .u64 0, .int .u64 0, .int .u64 0, .int .u64 0, .slice none 0 0, .bool false]) (t := 25) ?hr ?_; (case hd => rfl); (case hg => rfl); (case hr => first | (go_simp; done) | (go_simp; rfl)); intro gb178 hg w14 hbox hb; have n0_ := Aside0.mk (blk_below (g := gb177) (blkN BK177) hb); have n1_ := Aside0.mk (below_step (belN HB) hb); have n2_ := Aside0.mk (hbox); have n3_ := Aside0.mk ((by rw [hg]; exact (below_size (belN HB)) : w.heap.size ≤ gb178)); have n4_ := Aside0.mk ((by rw [hg]; exact (below_size (belN HB)) : w.heap.size ≤ gb178)); have n5_ := Aside0.mk ((by rw [hg]; exact Nat.ne_of_lt (blk_lt (g := gb177) (blkN BK177)) : gb177 ≠ gb178)); have n6_ := Aside0.mk ((by rw [hg]; exact Nat.ne_of_gt (blk_lt (g := gb177) (blkN BK177)) : gb178 ≠ gb177)); clear BK177; clear HB; have BK177 := n0_; have HB := n1_; have BK178 := n2_; have GW178 := n3_; have GE178 := n4_; have NB177_178 := n5_; have NB178_177 := n6_; clear n0_ n1_ n2_ n3_ n4_ n5_ n6_; clear hb hbox hg; have hnb15 := NB177_178.out; have hnc15 := NB178_177.out; obtain ⟨hcz16_0, hcz16_1, hcz16_2, hcz16_3, hcz16_4, hcz16_5, hcz16_6, hfz16_0, hfz16_1, hfz16_2, hfz16_3, hfz16_4, hfz16_5, hfz16_6⟩ := cz7_ (w := w14) BK177.out) | ((with_reducible refine gate_callee (f := 33) rfl ?_); refine goesL_ (some 14) rfl rfl Try.func33 (by kernel_rfl) rfl #[.agg #[.int .u64 a0_0, .int .u64 a0_1, .int .u64 a0_2, .int .u64 a0_3, .int .u64 a0_4, .slice A0_5 l0_5.length c0_5, .bool a0_6]] rfl (by (try simp only [List.map_toArray, List.map_cons, List.map_nil]); first | done | rfl | (simp only [List.length_drop, List.length_take]; rfl)) ?_; (with_reducible refine (channel_Check.calls k a0_0 a0_1 a0_2 a0_3 a0_4 _ _ l0_5 a0_6 t179 _ ?side1 ?side2 A4.out).mono ?_); (case side1 => repeat (first | exact (Kd.C_below HR0_5.out HB.out) | (with_reducible refine Kd.C_alloc ?_ _) | (with_reducible refine Kd.C_drewN ?_ _) | (with_reducible refine Kd.C_drew ?_))); (case side2 => exact HC0_5.out); rintro e w17 ⟨rfl, hb⟩; refine ⟨_, rfl, ?_⟩; have n0_ := Aside0.mk (blk_below (g := gb177) (blkN BK177) hb); have n1_ := Aside0.mk (blk_below (g := gb178) (blkN BK178) hb); have n2_ := Aside0.mk (below_step (belN HB) hb); clear BK177; clear BK178; clear HB; have BK177 := n0_; have BK178 := n1_; have HB := n2_; clear n0_ n1_ n2_; (try clear hb); (try clear hb2); (try clear hk); (try clear hi); obtain ⟨hcz18_0, hcz18_1, hcz18_2, hcz18_3, hcz18_4, hcz18_5, hcz18_6, hfz18_0, hfz18_1, hfz18_2, hfz18_3, hfz18_4, hfz18_5, hfz18_6⟩ := cz7_ (w := w17) BK177.out) | ((with_reducible refine gate_callee (f := 85) rfl ?_); refine goesL_ (some 23) rfl rfl Try.func85 (by kernel_rfl) rfl #[.slice A0_5 l0_5.length c0_5, .int .u64 a1, .func (.func 86) #[] #[]] rfl (by (try simp only [List.map_toArray, List.map_cons, List.map_nil]); first | done | rfl | (simp only [List.length_drop, List.length_take]; rfl)) ?_; (with_reducible refine (slices_BinarySearchFunc_uint64_at_channel_order.calls k _ _ l0_5 a1  t180 true _ ?side1 ?side2 A6.out).mono ?_); (case side1 => repeat (first | exact (Kd.C_below HR0_5.out HB.out) | (with_reducible refine Kd.C_alloc ?_ _) | (with_reducible refine Kd.C_drewN ?_ _) | (with_reducible refine Kd.C_drew ?_))); (case side2 => exact HC0_5.out); rintro e w19 ⟨rfl, hb⟩; refine ⟨_, rfl, ?_⟩; have n0_ := Aside0.mk (blk_below (g := gb177) (blkN BK177) hb); have n1_ := Aside0.mk (blk_below (g := gb178) (blkN BK178) hb); have n2_ := Aside0.mk (below_step (belN HB) hb); clear BK177; clear BK178; clear HB; have BK177 := n0_; have BK178 := n1_; have HB := n2_; clear n0_ n1_ n2_; (try clear hb); (try clear hb2); (try clear hk); (try clear hi); obtain ⟨hcz20_0, hcz20_1, hcz20_2, hcz20_3, hcz20_4, hcz20_5, hcz20_6, hfz20_0, hfz20_1, hfz20_2, hfz20_3, hfz20_4, hfz20_5, hfz20_6⟩ := cz7_ (w := w19) BK177.out; have p182 : 0 ≤ (t180 : Int) := of_decide_eq_true (by first | (with_reducible assumption) | assumption); have q182 : t180 < (l0_5.length : Int) := of_decide_eq_true (by first | (with_reducible assumption) | assumption); obtain ⟨ad182, e182, hx182_0, hx182_1⟩ := at_T44 HR0_5.out t180 p182 q182; cases e182; replace hx182_0 := (HB.out.cell (World.block_lt_of_cell? w _ hx182_0)).trans hx182_0; replace hx182_1 := (HB.out.cell (World.block_lt_of_cell? w _ hx182_1)).trans hx182_1; replace p182 := eq_true p182; replace q182 := eq_true q182) | ((with_reducible refine gate_callee (f := 89) rfl ?_); refine goesL_ (some 37) rfl rfl Try.func89 (by kernel_rfl) rfl #[.slice (some ad182) l0_5.length c0_5] rfl (by (try simp only [List.map_toArray, List.map_cons, List.map_nil]); first | done | rfl | (simp only [List.length_drop, List.length_take]; rfl)) ?_; (with_reducible refine (slices_Clone_Hold.calls _ _ l0_5 t183 _ ?side1 ?side2 A10.out).mono ?_); (case side1 => repeat (first | exact (Kd.C_below HR0_5.out HB.out) | (with_reducible refine Kd.C_alloc ?_ _) | (with_reducible refine Kd.C_drewN ?_ _) | (with_reducible refine Kd.C_drew ?_))); (case side2 => exact HC0_5.out); rintro e w21 ⟨v184, rfl, ho0, hb⟩; refine ⟨_, rfl, ?_⟩; have n0_ := Aside0.mk (Kd.R_lower ho0 (below_size (belN HB))); have n1_ := Aside0.mk (blk_below (g := gb177) (blkN BK177) hb); have n2_ := Aside0.mk (blk_below (g := gb178) (blkN BK178) hb); have n3_ := Aside0.mk (below_step (belN HB) hb); clear BK177; clear BK178; clear HB; have HO185 := n0_; have BK177 := n1_; have BK178 := n2_; have HB := n3_; clear n0_ n1_ n2_ n3_; (try clear hb); (try clear hb2); (try clear hk); (try clear hi); (try clear ho0); obtain ⟨Ao22, co22, eo22⟩ := Kd.R_slice HO185.out; subst eo22) | ((with_reducible refine gate_callee (f := 133) rfl ?_); refine goesL_ (some 41) rfl rfl Try.func133 (by kernel_rfl) rfl #[.slice Ao22 t183.length co22, .int .i64 t180, .int .i64 (wrap64 (t180 + 1))] rfl (by (try simp only [List.map_toArray, List.map_cons, List.map_nil]); first | done | rfl | (simp only [List.length_drop, List.length_take]; rfl)) ?_; (with_reducible refine (slices_Delete_Hold.calls (fun k_ => some k_ = (.slice Ao22 t183.length co22 : Value).ownBlock) (.slice Ao22 t183.length co22) t183 t180 (wrap64 (t180 + 1)) t186 w _ ?side1 ?side2 A11.out).mono ?_); (case side1 => repeat (first | (with_reducible first | exact HB.out | apply below_alloc | apply pw_below_drewN | apply below_drew1 | refine below_set ?_ GE177.out | refine below_set ?_ GE178.out) | exact HB.out)); (case side2 => exact Kd.R_tight rfl HO185.out); rintro e w23 ⟨v187, rfl, ho0, hb, hkp⟩; refine ⟨_, rfl, ?_⟩; have n0_ := Aside0.mk (blk_kept (blkN BK177) hkp (fun hs_ => (fun e_ => (Kd.R_ne HO185.out BK177.out (by decide)) e_) hs_)); have n1_ := Aside0.mk (blk_kept (blkN BK178) hkp (fun hs_ => (fun e_ => (Kd.R_ne HO185.out BK178.out (by decide)) e_) hs_)); have n2_ := Aside0.mk (Kd.R_mono (ok' := fun k_ => True) ho0 (fun k_ hk_ => trivial)); have n3_ := Aside0.mk (hb); clear BK177; clear BK178; clear HB; clear HO185; have BK177 := n0_; have BK178 := n1_; have HO188 := n2_; have HB := n3_; clear n0_ n1_ n2_ n3_; (try clear hb); (try clear hkp); (try clear ho0); obtain ⟨Ao24, co24, eo24⟩ := Kd.R_slice HO188.out; subst eo24; obtain ⟨hcz25_0, hcz25_1, hcz25_2, hcz25_3, hcz25_4, hcz25_5, hcz25_6, hfz25_0, hfz25_1, hfz25_2, hfz25_3, hfz25_4, hfz25_5, hfz25_6⟩ := cz7_ (w := w23) BK177.out) | ((with_reducible refine gate_tmp (t_ := 43) rfl ?_); refine goesT_ (some 44) rfl rfl Try.func91 (by kernel_rfl) rfl #[.pointer (some ⟨gb177, 0, none⟩)] rfl rfl (by (try simp only [List.map_toArray, List.map_cons, List.map_nil]); first | done | rfl | (simp only [List.length_drop, List.length_take]; rfl)) ?_; (with_reducible refine (channel_Fail_1.calls   _ A12.out).mono ?_); rintro e w' ⟨rfl, ⟨nd, rfl⟩⟩; refine ⟨_, rfl, ?_⟩; obtain ⟨hcz26_0, hcz26_1, hcz26_2, hcz26_3, hcz26_4, hcz26_5, hcz26_6, hfz26_0, hfz26_1, hfz26_2, hfz26_3, hfz26_4, hfz26_5, hfz26_6⟩ := cz7_ (w := w23) BK178.out))
     refine bodyPost_ret (results_ctt rfl _ _ gb178 25 #[.int .u64 a0_0, .int .u64 (IntKind.u64.wrap (a0_1 + ((rd_T44 l0_5 t180).f1))), .int .u64 a0_2, .int .u64 a0_3, .int .u64 a0_4, .slice Ao24 t186.length co24, .bool a0_6] (0, 0) _ rfl (by (with_reducible repeat (first | refine blk_drewN ?_ _ | refine blk_drew ?_ | refine blk_alloc ?_ _)); refine blk_put (cs := #[.int .u64 a0_0, .int .u64 (IntKind.u64.wrap (a0_1 + ((rd_T44 l0_5 t180).f1))), .int .u64 a0_2, .int .u64 a0_3, .int .u64 a0_4, .slice Ao24 t186.length co24, .bool false]) ?_ 6 _ rfl; refine blk_put (cs := #[.int .u64 a0_0, .int .u64 (IntKind.u64.wrap (a0_1 + ((rd_T44 l0_5 t180).f1))), .int .u64 a0_2, .int .u64 a0_3, .int .u64 a0_4, .slice none 0 0, .bool false]) ?_ 5 _ rfl; refine blk_put (cs := #[.int .u64 a0_0, .int .u64 (IntKind.u64.wrap (a0_1 + ((rd_T44 l0_5 t180).f1))), .int .u64 a0_2, .int .u64 a0_3, .int .u64 0, .slice none 0 0, .bool false]) ?_ 4 _ rfl; refine blk_put (cs := #[.int .u64 a0_0, .int .u64 (IntKind.u64.wrap (a0_1 + ((rd_T44 l0_5 t180).f1))), .int .u64 a0_2, .int .u64 0, .int .u64 0, .slice none 0 0, .bool false]) ?_ 3 _ rfl; refine blk_put (cs := #[.int .u64 a0_0, .int .u64 (IntKind.u64.wrap (a0_1 + ((rd_T44 l0_5 t180).f1))), .int .u64 0, .int .u64 0, .int .u64 0, .slice none 0 0, .bool false]) ?_ 2 _ rfl; refine blk_put (cs := #[.int .u64 a0_0, .int .u64 0, .int .u64 0, .int .u64 0, .int .u64 0, .slice none 0 0, .bool false]) ?_ 1 _ rfl; refine blk_put (cs := #[.int .u64 0, .int .u64 0, .int .u64 0, .int .u64 0, .int .u64 0, .slice none 0 0, .bool false]) ?_ 0 _ rfl; (with_reducible repeat (first | refine blk_drewN ?_ _ | refine blk_drew ?_ | refine blk_alloc ?_ _)); refine blk_far ?_ NB178_177.out _; (with_reducible repeat (first | refine blk_drewN ?_ _ | refine blk_drew ?_ | refine blk_alloc ?_ _)); refine blk_far ?_ NB178_177.out _; (with_reducible repeat (first | refine blk_drewN ?_ _ | refine blk_drew ?_ | refine blk_alloc ?_ _)); exact BK178.out) Try.underlying25 rfl (by kernel_rfl)) rfl ?_
     exact ⟨_, by first | rfl | (simp [errW_none, errW_some] <;> rfl) | (simp [*, errW_none, errW_some] <;> rfl), by (with_reducible repeat (first | apply Kd.R_alloc | apply Kd.R_drewN | apply Kd.R_drew)); exact Kd.R_mono (Kd.R_far (p := ⟨gb178, 6, none⟩) (Kd.R_far (p := ⟨gb178, 5, none⟩) (Kd.R_far (p := ⟨gb178, 4, none⟩) (Kd.R_far (p := ⟨gb178, 3, none⟩) (Kd.R_far (p := ⟨gb178, 2, none⟩) (Kd.R_far (p := ⟨gb178, 1, none⟩) (Kd.R_far (p := ⟨gb178, 0, none⟩) (Kd.R_far (p := ⟨gb177, 1, none⟩) (Kd.R_far (p := ⟨gb177, 5, none⟩) (Kd.R_types (Kd.R_types HO188.out BK177.out (by decide)) BK178.out (by decide)) (fun _ hk => hk.1.2) (.slice Ao24 t186.length co24)) (fun _ hk => hk.1.2) (.int .u64 (IntKind.u64.wrap (a0_1 + ((rd_T44 l0_5 t180).f1))))) (fun _ hk => hk.2) (.int .u64 a0_0)) (fun _ hk => hk.2) (.int .u64 (IntKind.u64.wrap (a0_1 + ((rd_T44 l0_5 t180).f1))))) (fun _ hk => hk.2) (.int .u64 a0_2)) (fun _ hk => hk.2) (.int .u64 a0_3)) (fun _ hk => hk.2) (.int .u64 a0_4)) (fun _ hk => hk.2) (.slice Ao24 t186.length co24)) (fun _ hk => hk.2) (.bool a0_6)) (fun _ hk => trivial), by repeat (first | (with_reducible first | exact HB.out | apply below_alloc | apply pw_below_drewN | apply below_drew1 | refine below_set ?_ GE177.out | refine below_set ?_ GE178.out) | exact HB.out)⟩
    ·rw [if_neg c9] at H
     exact absurd H (by simp)
   ·rw [if_neg c8] at H
    exact absurd H (by simp)
  ·replace c7 := Bool.eq_false_iff.mpr c7
   subst c7
   have H1 : (some (0, 0, 0, 0, 0, ([] : List (S44)), false, 0, 5)) = some (r1, r2, r3, r4, r5, r6, r7, r8, r9) := by rw [if_neg (show ¬ (false = true) by decide)] at H; exact H
   clear H
   have H := H1
   clear H1
   simp only [Option.some.injEq, Prod.mk.injEq] at H
   obtain ⟨rfl, rfl, rfl, rfl, rfl, rfl, rfl, rfl, rfl⟩ := H
   go_enter Try.func90, Try.ntmps90
   go_wp2_with (first | ((with_reducible refine gate_dst (N := 3) rfl ?_); refine box_event ?hg (N := 3) ?hd (cs := #[.int .u64 a0_0, .int .u64 a0_1, .int .u64 a0_2, .int .u64 a0_3, .int .u64 a0_4, .slice A0_5 l0_5.length c0_5, .bool a0_6]) (t := 25) ?hr ?_; (case hd => rfl); (case hg => rfl); (case hr => first | (go_simp; done) | (go_simp; rfl)); intro gb177 hg w27 hbox hb; have n0_ := Aside0.mk (below_step (belN HB) hb); have n1_ := Aside0.mk (hbox); have n2_ := Aside0.mk ((by rw [hg]; exact (below_size (belN HB)) : w.heap.size ≤ gb177)); have n3_ := Aside0.mk ((by rw [hg]; exact (below_size (belN HB)) : w.heap.size ≤ gb177)); clear HB; have HB := n0_; have BK177 := n1_; have GW177 := n2_; have GE177 := n3_; clear n0_ n1_ n2_ n3_; clear hb hbox hg) | ((with_reducible refine gate_dst (N := 6) rfl ?_); refine box_event ?hg (N := 6) ?hd (cs := #[.int .u64 0, .int .u64 0, .int .u64 0, .int .u64 0, .int .u64 0, .slice none 0 0, .bool false]) (t := 25) ?hr ?_; (case hd => rfl); (case hg => rfl); (case hr => first | (go_simp; done) | (go_simp; rfl)); intro gb178 hg w28 hbox hb; have n0_ := Aside0.mk (blk_below (g := gb177) (blkN BK177) hb); have n1_ := Aside0.mk (below_step (belN HB) hb); have n2_ := Aside0.mk (hbox); have n3_ := Aside0.mk ((by rw [hg]; exact (below_size (belN HB)) : w.heap.size ≤ gb178)); have n4_ := Aside0.mk ((by rw [hg]; exact (below_size (belN HB)) : w.heap.size ≤ gb178)); have n5_ := Aside0.mk ((by rw [hg]; exact Nat.ne_of_lt (blk_lt (g := gb177) (blkN BK177)) : gb177 ≠ gb178)); have n6_ := Aside0.mk ((by rw [hg]; exact Nat.ne_of_gt (blk_lt (g := gb177) (blkN BK177)) : gb178 ≠ gb177)); clear BK177; clear HB; have BK177 := n0_; have HB := n1_; have BK178 := n2_; have GW178 := n3_; have GE178 := n4_; have NB177_178 := n5_; have NB178_177 := n6_; clear n0_ n1_ n2_ n3_ n4_ n5_ n6_; clear hb hbox hg; have hnb29 := NB177_178.out; have hnc29 := NB178_177.out; obtain ⟨hcz30_0, hcz30_1, hcz30_2, hcz30_3, hcz30_4, hcz30_5, hcz30_6, hfz30_0, hfz30_1, hfz30_2, hfz30_3, hfz30_4, hfz30_5, hfz30_6⟩ := cz7_ (w := w28) BK177.out) | ((with_reducible refine gate_callee (f := 33) rfl ?_); refine goesL_ (some 14) rfl rfl Try.func33 (by kernel_rfl) rfl #[.agg #[.int .u64 a0_0, .int .u64 a0_1, .int .u64 a0_2, .int .u64 a0_3, .int .u64 a0_4, .slice A0_5 l0_5.length c0_5, .bool a0_6]] rfl (by (try simp only [List.map_toArray, List.map_cons, List.map_nil]); first | done | rfl | (simp only [List.length_drop, List.length_take]; rfl)) ?_; (with_reducible refine (channel_Check.calls k a0_0 a0_1 a0_2 a0_3 a0_4 _ _ l0_5 a0_6 t179 _ ?side1 ?side2 A4.out).mono ?_); (case side1 => repeat (first | exact (Kd.C_below HR0_5.out HB.out) | (with_reducible refine Kd.C_alloc ?_ _) | (with_reducible refine Kd.C_drewN ?_ _) | (with_reducible refine Kd.C_drew ?_))); (case side2 => exact HC0_5.out); rintro e w31 ⟨rfl, hb⟩; refine ⟨_, rfl, ?_⟩; have n0_ := Aside0.mk (blk_below (g := gb177) (blkN BK177) hb); have n1_ := Aside0.mk (blk_below (g := gb178) (blkN BK178) hb); have n2_ := Aside0.mk (below_step (belN HB) hb); clear BK177; clear BK178; clear HB; have BK177 := n0_; have BK178 := n1_; have HB := n2_; clear n0_ n1_ n2_; (try clear hb); (try clear hb2); (try clear hk); (try clear hi); obtain ⟨hcz32_0, hcz32_1, hcz32_2, hcz32_3, hcz32_4, hcz32_5, hcz32_6, hfz32_0, hfz32_1, hfz32_2, hfz32_3, hfz32_4, hfz32_5, hfz32_6⟩ := cz7_ (w := w31) BK177.out) | ((with_reducible refine gate_callee (f := 85) rfl ?_); refine goesL_ (some 23) rfl rfl Try.func85 (by kernel_rfl) rfl #[.slice A0_5 l0_5.length c0_5, .int .u64 a1, .func (.func 86) #[] #[]] rfl (by (try simp only [List.map_toArray, List.map_cons, List.map_nil]); first | done | rfl | (simp only [List.length_drop, List.length_take]; rfl)) ?_; (with_reducible refine (slices_BinarySearchFunc_uint64_at_channel_order.calls k _ _ l0_5 a1  t180 false _ ?side1 ?side2 A6.out).mono ?_); (case side1 => repeat (first | exact (Kd.C_below HR0_5.out HB.out) | (with_reducible refine Kd.C_alloc ?_ _) | (with_reducible refine Kd.C_drewN ?_ _) | (with_reducible refine Kd.C_drew ?_))); (case side2 => exact HC0_5.out); rintro e w33 ⟨rfl, hb⟩; refine ⟨_, rfl, ?_⟩; have n0_ := Aside0.mk (blk_below (g := gb177) (blkN BK177) hb); have n1_ := Aside0.mk (blk_below (g := gb178) (blkN BK178) hb); have n2_ := Aside0.mk (below_step (belN HB) hb); clear BK177; clear BK178; clear HB; have BK177 := n0_; have BK178 := n1_; have HB := n2_; clear n0_ n1_ n2_; (try clear hb); (try clear hb2); (try clear hk); (try clear hi); obtain ⟨hcz34_0, hcz34_1, hcz34_2, hcz34_3, hcz34_4, hcz34_5, hcz34_6, hfz34_0, hfz34_1, hfz34_2, hfz34_3, hfz34_4, hfz34_5, hfz34_6⟩ := cz7_ (w := w33) BK178.out))
   refine bodyPost_ret (results_ctt rfl _ _ gb178 25 #[.int .u64 0, .int .u64 0, .int .u64 0, .int .u64 0, .int .u64 0, .slice none 0 0, .bool false] (0, 0) _ rfl (by (with_reducible repeat (first | refine blk_drewN ?_ _ | refine blk_drew ?_ | refine blk_alloc ?_ _)); refine blk_put (cs := #[.int .u64 0, .int .u64 0, .int .u64 0, .int .u64 0, .int .u64 0, .slice none 0 0, .bool false]) ?_ 6 _ rfl; refine blk_put (cs := #[.int .u64 0, .int .u64 0, .int .u64 0, .int .u64 0, .int .u64 0, .slice none 0 0, .bool false]) ?_ 5 _ rfl; refine blk_put (cs := #[.int .u64 0, .int .u64 0, .int .u64 0, .int .u64 0, .int .u64 0, .slice none 0 0, .bool false]) ?_ 4 _ rfl; refine blk_put (cs := #[.int .u64 0, .int .u64 0, .int .u64 0, .int .u64 0, .int .u64 0, .slice none 0 0, .bool false]) ?_ 3 _ rfl; refine blk_put (cs := #[.int .u64 0, .int .u64 0, .int .u64 0, .int .u64 0, .int .u64 0, .slice none 0 0, .bool false]) ?_ 2 _ rfl; refine blk_put (cs := #[.int .u64 0, .int .u64 0, .int .u64 0, .int .u64 0, .int .u64 0, .slice none 0 0, .bool false]) ?_ 1 _ rfl; refine blk_put (cs := #[.int .u64 0, .int .u64 0, .int .u64 0, .int .u64 0, .int .u64 0, .slice none 0 0, .bool false]) ?_ 0 _ rfl; (with_reducible repeat (first | refine blk_drewN ?_ _ | refine blk_drew ?_ | refine blk_alloc ?_ _)); exact BK178.out) Try.underlying25 rfl (by kernel_rfl)) rfl ?_
   exact ⟨_, by first | rfl | (simp [errW_none, errW_some] <;> rfl) | (simp [*, errW_none, errW_some] <;> rfl), by first | exact Kd.R_nil _ _ _ _ _ | exact Kd.N_nil _ _ _ _ _ | exact Kd.V_nil _ _ _ _ _ | exact Kd.Q_nil _ _ _ _ _ | exact Kd.S_nil _ _ _ _ _, by repeat (first | (with_reducible first | exact HB.out | apply below_alloc | apply pw_below_drewN | apply below_drew1 | refine below_set ?_ GE177.out | refine below_set ?_ GE178.out) | exact HB.out)⟩
 ·rw [if_neg c5] at H
  have c5b0 : (t179 == 0) = false := beq_eq_false_iff_ne.mpr c5
  have c5b1 : (t179 != 0) = true := bne_iff_ne.mpr c5
  simp only [Option.some.injEq, Prod.mk.injEq] at H
  obtain ⟨rfl, rfl, rfl, rfl, rfl, rfl, rfl, rfl, rfl⟩ := H
  go_enter Try.func90, Try.ntmps90
  go_wp2_with (first | ((with_reducible refine gate_dst (N := 3) rfl ?_); refine box_event ?hg (N := 3) ?hd (cs := #[.int .u64 a0_0, .int .u64 a0_1, .int .u64 a0_2, .int .u64 a0_3, .int .u64 a0_4, .slice A0_5 l0_5.length c0_5, .bool a0_6]) (t := 25) ?hr ?_; (case hd => rfl); (case hg => rfl); (case hr => first | (go_simp; done) | (go_simp; rfl)); intro gb177 hg w35 hbox hb; have n0_ := Aside0.mk (below_step (belN HB) hb); have n1_ := Aside0.mk (hbox); have n2_ := Aside0.mk ((by rw [hg]; exact (below_size (belN HB)) : w.heap.size ≤ gb177)); have n3_ := Aside0.mk ((by rw [hg]; exact (below_size (belN HB)) : w.heap.size ≤ gb177)); clear HB; have HB := n0_; have BK177 := n1_; have GW177 := n2_; have GE177 := n3_; clear n0_ n1_ n2_ n3_; clear hb hbox hg) | ((with_reducible refine gate_dst (N := 6) rfl ?_); refine box_event ?hg (N := 6) ?hd (cs := #[.int .u64 0, .int .u64 0, .int .u64 0, .int .u64 0, .int .u64 0, .slice none 0 0, .bool false]) (t := 25) ?hr ?_; (case hd => rfl); (case hg => rfl); (case hr => first | (go_simp; done) | (go_simp; rfl)); intro gb178 hg w36 hbox hb; have n0_ := Aside0.mk (blk_below (g := gb177) (blkN BK177) hb); have n1_ := Aside0.mk (below_step (belN HB) hb); have n2_ := Aside0.mk (hbox); have n3_ := Aside0.mk ((by rw [hg]; exact (below_size (belN HB)) : w.heap.size ≤ gb178)); have n4_ := Aside0.mk ((by rw [hg]; exact (below_size (belN HB)) : w.heap.size ≤ gb178)); have n5_ := Aside0.mk ((by rw [hg]; exact Nat.ne_of_lt (blk_lt (g := gb177) (blkN BK177)) : gb177 ≠ gb178)); have n6_ := Aside0.mk ((by rw [hg]; exact Nat.ne_of_gt (blk_lt (g := gb177) (blkN BK177)) : gb178 ≠ gb177)); clear BK177; clear HB; have BK177 := n0_; have HB := n1_; have BK178 := n2_; have GW178 := n3_; have GE178 := n4_; have NB177_178 := n5_; have NB178_177 := n6_; clear n0_ n1_ n2_ n3_ n4_ n5_ n6_; clear hb hbox hg; have hnb37 := NB177_178.out; have hnc37 := NB178_177.out; obtain ⟨hcz38_0, hcz38_1, hcz38_2, hcz38_3, hcz38_4, hcz38_5, hcz38_6, hfz38_0, hfz38_1, hfz38_2, hfz38_3, hfz38_4, hfz38_5, hfz38_6⟩ := cz7_ (w := w36) BK177.out) | ((with_reducible refine gate_callee (f := 33) rfl ?_); refine goesL_ (some 14) rfl rfl Try.func33 (by kernel_rfl) rfl #[.agg #[.int .u64 a0_0, .int .u64 a0_1, .int .u64 a0_2, .int .u64 a0_3, .int .u64 a0_4, .slice A0_5 l0_5.length c0_5, .bool a0_6]] rfl (by (try simp only [List.map_toArray, List.map_cons, List.map_nil]); first | done | rfl | (simp only [List.length_drop, List.length_take]; rfl)) ?_; (with_reducible refine (channel_Check.calls k a0_0 a0_1 a0_2 a0_3 a0_4 _ _ l0_5 a0_6 t179 _ ?side1 ?side2 A4.out).mono ?_); (case side1 => repeat (first | exact (Kd.C_below HR0_5.out HB.out) | (with_reducible refine Kd.C_alloc ?_ _) | (with_reducible refine Kd.C_drewN ?_ _) | (with_reducible refine Kd.C_drew ?_))); (case side2 => exact HC0_5.out); rintro e w39 ⟨rfl, hb⟩; refine ⟨_, rfl, ?_⟩; have n0_ := Aside0.mk (blk_below (g := gb177) (blkN BK177) hb); have n1_ := Aside0.mk (blk_below (g := gb178) (blkN BK178) hb); have n2_ := Aside0.mk (below_step (belN HB) hb); clear BK177; clear BK178; clear HB; have BK177 := n0_; have BK178 := n1_; have HB := n2_; clear n0_ n1_ n2_; (try clear hb); (try clear hb2); (try clear hk); (try clear hi); obtain ⟨hcz40_0, hcz40_1, hcz40_2, hcz40_3, hcz40_4, hcz40_5, hcz40_6, hfz40_0, hfz40_1, hfz40_2, hfz40_3, hfz40_4, hfz40_5, hfz40_6⟩ := cz7_ (w := w39) BK178.out))
  refine bodyPost_ret (results_ctt rfl _ _ gb178 25 #[.int .u64 0, .int .u64 0, .int .u64 0, .int .u64 0, .int .u64 0, .slice none 0 0, .bool false] (0, 0) _ rfl (by (with_reducible repeat (first | refine blk_drewN ?_ _ | refine blk_drew ?_ | refine blk_alloc ?_ _)); refine blk_put (cs := #[.int .u64 0, .int .u64 0, .int .u64 0, .int .u64 0, .int .u64 0, .slice none 0 0, .bool false]) ?_ 6 _ rfl; refine blk_put (cs := #[.int .u64 0, .int .u64 0, .int .u64 0, .int .u64 0, .int .u64 0, .slice none 0 0, .bool false]) ?_ 5 _ rfl; refine blk_put (cs := #[.int .u64 0, .int .u64 0, .int .u64 0, .int .u64 0, .int .u64 0, .slice none 0 0, .bool false]) ?_ 4 _ rfl; refine blk_put (cs := #[.int .u64 0, .int .u64 0, .int .u64 0, .int .u64 0, .int .u64 0, .slice none 0 0, .bool false]) ?_ 3 _ rfl; refine blk_put (cs := #[.int .u64 0, .int .u64 0, .int .u64 0, .int .u64 0, .int .u64 0, .slice none 0 0, .bool false]) ?_ 2 _ rfl; refine blk_put (cs := #[.int .u64 0, .int .u64 0, .int .u64 0, .int .u64 0, .int .u64 0, .slice none 0 0, .bool false]) ?_ 1 _ rfl; refine blk_put (cs := #[.int .u64 0, .int .u64 0, .int .u64 0, .int .u64 0, .int .u64 0, .slice none 0 0, .bool false]) ?_ 0 _ rfl; (with_reducible repeat (first | refine blk_drewN ?_ _ | refine blk_drew ?_ | refine blk_alloc ?_ _)); exact BK178.out) Try.underlying25 rfl (by kernel_rfl)) rfl ?_
  exact ⟨_, by first | rfl | (simp [errW_none, errW_some] <;> rfl) | (simp [*, errW_none, errW_some] <;> rfl), by first | exact Kd.R_nil _ _ _ _ _ | exact Kd.N_nil _ _ _ _ _ | exact Kd.V_nil _ _ _ _ _ | exact Kd.Q_nil _ _ _ _ _ | exact Kd.S_nil _ _ _ _ _, by repeat (first | (with_reducible first | exact HB.out | apply below_alloc | apply pw_below_drewN | apply below_drew1 | refine below_set ?_ GE177.out | refine below_set ?_ GE178.out) | exact HB.out)⟩

/-! ### channel_Fail: function 24 -/
def channel_Fail.f (k : Nat) (a0_0 : Int) (a0_1 : Int) (a0_2 : Int) (a0_3 : Int) (a0_4 : Int) (l0_5 : List (S44)) (a0_6 : Bool) (a1 : Int) : Option (Int × Int × Int × Int × Int × (List (S44)) × Bool × Int × Int) := (channel_end_at_channel_Fail_1.f k a0_0 a0_1 a0_2 a0_3 a0_4 l0_5 a0_6 a1).bind fun bt191 => (some (bt191.1, bt191.2.1, bt191.2.2.1, bt191.2.2.2.1, bt191.2.2.2.2.1, bt191.2.2.2.2.2.1, bt191.2.2.2.2.2.2.1, bt191.2.2.2.2.2.2.2.1, bt191.2.2.2.2.2.2.2.2))
theorem channel_Fail.mono : ∀ a0 a1 a2 a3 a4 a5 a6 a7 k, LeO (channel_Fail.f k a0 a1 a2 a3 a4 a5 a6 a7) (channel_Fail.f (k + 1) a0 a1 a2 a3 a4 a5 a6 a7) := by
  intro a0 a1 a2 a3 a4 a5 a6 a7 k
  unfold channel_Fail.f
  repeat' first
      | (with_reducible exact channel_end_at_channel_Fail_1.mono _ _ _ _ _ _ _ _ _)
      | (with_reducible exact LeO.refl _)
      | (with_reducible exact LeO.none _)
      | (with_reducible refine LeO.ite ?_ ?_)
      | (with_reducible refine LeO.bind ?_ (fun _ => ?_))
      | exact channel_end_at_channel_Fail_1.mono _ _ _ _ _ _ _ _ _
      | exact LeO.none _
      | refine LeO.ite ?_ ?_
      | refine LeO.bind ?_ (fun _ => ?_)
set_option maxHeartbeats 8000000 in
set_option maxRecDepth 100000 in
theorem channel_Fail.calls (k : Nat) (a0_0 : Int) (a0_1 : Int) (a0_2 : Int) (a0_3 : Int) (a0_4 : Int) (A0_5 : Option Addr) (c0_5 : Nat) (l0_5 : List (S44)) (a0_6 : Bool) (a1 : Int) (r1 : Int) (r2 : Int) (r3 : Int) (r4 : Int) (r5 : Int) (r6 : List (S44)) (r7 : Bool) (r8 : Int) (r9 : Int) (w : World) (hr0_5 : Kd.C k44 w A0_5 l0_5.length l0_5) (hc0_5 : l0_5.length ≤ c0_5) (h : channel_Fail.f k a0_0 a0_1 a0_2 a0_3 a0_4 l0_5 a0_6 a1 = some (r1, r2, r3, r4, r5, r6, r7, r8, r9)) :
    Calls Try.prog 24 #[.agg #[.int .u64 a0_0, .int .u64 a0_1, .int .u64 a0_2, .int .u64 a0_3, .int .u64 a0_4, .slice A0_5 l0_5.length c0_5, .bool a0_6], .int .u64 a1] w fun e w' => ∃ v5_ : Value, e = .returned (.tuple #[.agg #[.int .u64 r1, .int .u64 r2, .int .u64 r3, .int .u64 r4, .int .u64 r5, v5_, .bool r7], .int .u64 r8, .int .i64 r9]) ∧ Kd.R k44 44 w' w.heap.size (fun _ => True) v5_ r6 ∧ Below w.heap.size w w' := by
  have hu25 := Try.underlying25
  have HR0_5 := Aside0.mk hr0_5
  have HC0_5 := Aside0.mk hc0_5
  clear hr0_5 hc0_5
  have HB := Aside0.mk (Below.refl w.heap.size w)
  have H : ((channel_end_at_channel_Fail_1.f k a0_0 a0_1 a0_2 a0_3 a0_4 l0_5 a0_6 a1).bind fun bt191 => (some (bt191.1, bt191.2.1, bt191.2.2.1, bt191.2.2.2.1, bt191.2.2.2.2.1, bt191.2.2.2.2.2.1, bt191.2.2.2.2.2.2.1, bt191.2.2.2.2.2.2.2.1, bt191.2.2.2.2.2.2.2.2))) = some (r1, r2, r3, r4, r5, r6, r7, r8, r9) := h
  clear h
  replace H := Option.bind_eq_some_iff.mp H
  obtain ⟨⟨t191, t192, t193, t194, t195, t196, t199, t200, t201⟩, A30, H⟩ := H
  replace H : (some (t191, t192, t193, t194, t195, t196, t199, t200, t201)) = some (r1, r2, r3, r4, r5, r6, r7, r8, r9) := H
  have A3 := Aside0.mk A30
  clear A30
  simp only [Option.some.injEq, Prod.mk.injEq] at H
  obtain ⟨rfl, rfl, rfl, rfl, rfl, rfl, rfl, rfl, rfl⟩ := H
  go_enter Try.func24, Try.ntmps24
  go_wp2_with (first | ((with_reducible refine gate_dst (N := 2) rfl ?_); refine box_event ?hg (N := 2) ?hd (cs := #[.int .u64 a0_0, .int .u64 a0_1, .int .u64 a0_2, .int .u64 a0_3, .int .u64 a0_4, .slice A0_5 l0_5.length c0_5, .bool a0_6]) (t := 25) ?hr ?_; (case hd => rfl); (case hg => rfl); (case hr => first | (go_simp; done) | (go_simp; rfl)); intro gb189 hg w4 hbox hb; have n0_ := Aside0.mk (below_step (belN HB) hb); have n1_ := Aside0.mk (hbox); have n2_ := Aside0.mk ((by rw [hg]; exact (below_size (belN HB)) : w.heap.size ≤ gb189)); have n3_ := Aside0.mk ((by rw [hg]; exact (below_size (belN HB)) : w.heap.size ≤ gb189)); clear HB; have HB := n0_; have BK189 := n1_; have GW189 := n2_; have GE189 := n3_; clear n0_ n1_ n2_ n3_; clear hb hbox hg) | ((with_reducible refine gate_dst (N := 4) rfl ?_); refine box_event ?hg (N := 4) ?hd (cs := #[.int .u64 0, .int .u64 0, .int .u64 0, .int .u64 0, .int .u64 0, .slice none 0 0, .bool false]) (t := 25) ?hr ?_; (case hd => rfl); (case hg => rfl); (case hr => first | (go_simp; done) | (go_simp; rfl)); intro gb190 hg w5 hbox hb; have n0_ := Aside0.mk (blk_below (g := gb189) (blkN BK189) hb); have n1_ := Aside0.mk (below_step (belN HB) hb); have n2_ := Aside0.mk (hbox); have n3_ := Aside0.mk ((by rw [hg]; exact (below_size (belN HB)) : w.heap.size ≤ gb190)); have n4_ := Aside0.mk ((by rw [hg]; exact (below_size (belN HB)) : w.heap.size ≤ gb190)); have n5_ := Aside0.mk ((by rw [hg]; exact Nat.ne_of_lt (blk_lt (g := gb189) (blkN BK189)) : gb189 ≠ gb190)); have n6_ := Aside0.mk ((by rw [hg]; exact Nat.ne_of_gt (blk_lt (g := gb189) (blkN BK189)) : gb190 ≠ gb189)); clear BK189; clear HB; have BK189 := n0_; have HB := n1_; have BK190 := n2_; have GW190 := n3_; have GE190 := n4_; have NB189_190 := n5_; have NB190_189 := n6_; clear n0_ n1_ n2_ n3_ n4_ n5_ n6_; clear hb hbox hg; have hnb6 := NB189_190.out; have hnc6 := NB190_189.out; obtain ⟨hcz7_0, hcz7_1, hcz7_2, hcz7_3, hcz7_4, hcz7_5, hcz7_6, hfz7_0, hfz7_1, hfz7_2, hfz7_3, hfz7_4, hfz7_5, hfz7_6⟩ := cz7_ (w := w5) BK189.out) | ((with_reducible refine gate_callee (f := 90) rfl ?_); refine goesL_ (some 9) rfl rfl Try.func90 (by kernel_rfl) rfl #[.agg #[.int .u64 a0_0, .int .u64 a0_1, .int .u64 a0_2, .int .u64 a0_3, .int .u64 a0_4, .slice A0_5 l0_5.length c0_5, .bool a0_6], .int .u64 a1, .func (.func 91) #[] #[]] rfl (by (try simp only [List.map_toArray, List.map_cons, List.map_nil]); first | done | rfl | (simp only [List.length_drop, List.length_take]; rfl)) ?_; (with_reducible refine (channel_end_at_channel_Fail_1.calls k a0_0 a0_1 a0_2 a0_3 a0_4 _ _ l0_5 a0_6 a1  t191 t192 t193 t194 t195 t196 t199 t200 t201 _ ?side1 ?side2 A3.out).mono ?_); (case side1 => repeat (first | exact (Kd.C_below HR0_5.out HB.out) | (with_reducible refine Kd.C_alloc ?_ _) | (with_reducible refine Kd.C_drewN ?_ _) | (with_reducible refine Kd.C_drew ?_))); (case side2 => exact HC0_5.out); rintro e w8 ⟨v197, rfl, ho0, hb⟩; refine ⟨_, rfl, ?_⟩; have n0_ := Aside0.mk (Kd.R_lower ho0 (below_size (belN HB))); have n1_ := Aside0.mk (blk_below (g := gb189) (blkN BK189) hb); have n2_ := Aside0.mk (blk_below (g := gb190) (blkN BK190) hb); have n3_ := Aside0.mk (below_step (belN HB) hb); clear BK189; clear BK190; clear HB; have HO198 := n0_; have BK189 := n1_; have BK190 := n2_; have HB := n3_; clear n0_ n1_ n2_ n3_; (try clear hb); (try clear hb2); (try clear hk); (try clear hi); (try clear ho0); obtain ⟨hcz9_0, hcz9_1, hcz9_2, hcz9_3, hcz9_4, hcz9_5, hcz9_6, hfz9_0, hfz9_1, hfz9_2, hfz9_3, hfz9_4, hfz9_5, hfz9_6⟩ := cz7_ (w := w8) BK190.out; obtain ⟨Ao10, co10, eo10⟩ := Kd.R_slice HO198.out; subst eo10))
  refine bodyPost_ret (results_ctt rfl _ _ gb190 25 #[.int .u64 t191, .int .u64 t192, .int .u64 t193, .int .u64 t194, .int .u64 t195, .slice Ao10 t196.length co10, .bool t199] (0, 0) _ rfl (by (with_reducible repeat (first | refine blk_drewN ?_ _ | refine blk_drew ?_ | refine blk_alloc ?_ _)); refine blk_put (cs := #[.int .u64 t191, .int .u64 t192, .int .u64 t193, .int .u64 t194, .int .u64 t195, .slice Ao10 t196.length co10, .bool false]) ?_ 6 _ rfl; refine blk_put (cs := #[.int .u64 t191, .int .u64 t192, .int .u64 t193, .int .u64 t194, .int .u64 t195, .slice none 0 0, .bool false]) ?_ 5 _ rfl; refine blk_put (cs := #[.int .u64 t191, .int .u64 t192, .int .u64 t193, .int .u64 t194, .int .u64 0, .slice none 0 0, .bool false]) ?_ 4 _ rfl; refine blk_put (cs := #[.int .u64 t191, .int .u64 t192, .int .u64 t193, .int .u64 0, .int .u64 0, .slice none 0 0, .bool false]) ?_ 3 _ rfl; refine blk_put (cs := #[.int .u64 t191, .int .u64 t192, .int .u64 0, .int .u64 0, .int .u64 0, .slice none 0 0, .bool false]) ?_ 2 _ rfl; refine blk_put (cs := #[.int .u64 t191, .int .u64 0, .int .u64 0, .int .u64 0, .int .u64 0, .slice none 0 0, .bool false]) ?_ 1 _ rfl; refine blk_put (cs := #[.int .u64 0, .int .u64 0, .int .u64 0, .int .u64 0, .int .u64 0, .slice none 0 0, .bool false]) ?_ 0 _ rfl; (with_reducible repeat (first | refine blk_drewN ?_ _ | refine blk_drew ?_ | refine blk_alloc ?_ _)); exact BK190.out) Try.underlying25 rfl (by kernel_rfl)) rfl ?_
  exact ⟨_, by first | rfl | (simp [errW_none, errW_some] <;> rfl) | (simp [*, errW_none, errW_some] <;> rfl), by (with_reducible repeat (first | apply Kd.R_alloc | apply Kd.R_drewN | apply Kd.R_drew)); exact Kd.R_mono (Kd.R_far (p := ⟨gb190, 6, none⟩) (Kd.R_far (p := ⟨gb190, 5, none⟩) (Kd.R_far (p := ⟨gb190, 4, none⟩) (Kd.R_far (p := ⟨gb190, 3, none⟩) (Kd.R_far (p := ⟨gb190, 2, none⟩) (Kd.R_far (p := ⟨gb190, 1, none⟩) (Kd.R_far (p := ⟨gb190, 0, none⟩) (Kd.R_types HO198.out BK190.out (by decide)) (fun _ hk => hk.2) (.int .u64 t191)) (fun _ hk => hk.2) (.int .u64 t192)) (fun _ hk => hk.2) (.int .u64 t193)) (fun _ hk => hk.2) (.int .u64 t194)) (fun _ hk => hk.2) (.int .u64 t195)) (fun _ hk => hk.2) (.slice Ao10 t196.length co10)) (fun _ hk => hk.2) (.bool t199)) (fun _ hk => trivial), by repeat (first | (with_reducible first | exact HB.out | apply below_alloc | apply pw_below_drewN | apply below_drew1 | refine below_set ?_ GE189.out | refine below_set ?_ GE190.out) | exact HB.out)⟩

/-! ### channel_Settle_1: function 92 (by hand) -/
def channel_Settle_1.f : Option (Unit) := some ()
theorem channel_Settle_1.calls {g : Nat} (w : World) (h : channel_Settle_1.f = some ()) :
    Calls Try.prog 92 #[.pointer (some ⟨g, 0, none⟩)] w fun e w' => e = .returned (.pointer (some ⟨g, 2, none⟩)) ∧ Drawn0 w w' := by
  go_enter Try.func92, Try.ntmps92
  go_wp2
  go_ret
  exact ⟨rfl, 0, rfl⟩

end Go.Proofs.Ytcfbcoinbecdfaa.P
