/- Plain words of this session: rounds, numbers that do not wrap, lists read from a place on. -/
import Derived.Test.YtcfbcoinbecdfaaVLd0
namespace Go.Proofs.Ytcfbcoinbecdfaa.B
open Go.RowKit Go.Proofs.YtcfbcoinbecdfaaW.PrintWords

theorem ev_pos {α : Type} {c : Prop} [Decidable c] {f g : Nat → Option α} {r : α} (hc : c) (h : Ev f r) : Ev (fun n => if c then f n else g n) r := by
  simpa only [if_pos hc] using h
theorem ev_neg {α : Type} {c : Prop} [Decidable c] {f g : Nat → Option α} {r : α} (hc : ¬ c) (h : Ev g r) : Ev (fun n => if c then f n else g n) r := by
  simpa only [if_neg hc] using h
theorem ev_ite {α : Type} {c : Prop} [Decidable c] {f g : Nat → Option α} {a b : α} (h1 : c → Ev f a) (h2 : ¬ c → Ev g b) : Ev (fun n => if c then f n else g n) (if c then a else b) := by
  by_cases h : c
  · rw [if_pos h]; exact ev_pos h (h1 h)
  · rw [if_neg h]; exact ev_neg h (h2 h)
theorem ev_if {α : Type} {c : Prop} [Decidable c] {f g : Nat → Option α} {r : α} (h1 : c → Ev f r) (h2 : ¬ c → Ev g r) : Ev (fun n => if c then f n else g n) r := by
  by_cases h : c
  · exact ev_pos h (h1 h)
  · exact ev_neg h (h2 h)
theorem ev_const {α : Type} {a : Option α} {r : α} (h : a = some r) : Ev (fun _ => a) r := h ▸ Ev.now r
theorem ev_some {α : Type} {a r : α} (h : a = r) : Ev (fun _ => some a) r := h ▸ Ev.now a
theorem ev_eq {α : Type} {g : Nat → Option α} {a r : α} (h : Ev g a) (e : a = r) : Ev g r := e ▸ h

theorem u64mod (n : Int) : IntKind.u64.wrap n = n % 18446744073709551616 := by simp [IntKind.wrap, IntKind.bits, IntKind.signed]
theorem u64w {n : Int} (h0 : 0 ≤ n) (h1 : n < 18446744073709551616) : IntKind.u64.wrap n = n := by rw [u64mod]; omega
theorem w64 {n : Int} (h0 : -9223372036854775808 ≤ n) (h1 : n < 9223372036854775808) : wrap64 n = n := by unfold wrap64; omega
theorem wf_u64 {n : Int} (h : (Lit.int .u64 n).wf = true) : 0 ≤ n ∧ n < 18446744073709551616 := by
  simp [Lit.wf, IntKind.min, IntKind.max, IntKind.signed, IntKind.bits] at h
  omega
theorem rd_nat (l : List Int) (n : Nat) : rd l (n : Int) = l.getD n 0 := by unfold rd; rw [Int.toNat_natCast]
theorem drop_nil {α : Type} {xs : List α} {i : Nat} (h : xs.drop i = []) : xs.length ≤ i := by simpa using h
theorem drop_lt {α : Type} {xs ys : List α} {i : Nat} {y : α} (h : xs.drop i = y :: ys) : i < xs.length := by
  have := congrArg List.length h
  simp at this
  omega
theorem drop_get {α : Type} {xs ys : List α} {i : Nat} {y : α} (d : α) (h : xs.drop i = y :: ys) : xs.getD i d = y := by
  have hi := drop_lt h
  rw [List.drop_eq_getElem_cons hi] at h
  injection h with h1 h2
  rw [List.getD_eq_getElem?_getD, List.getElem?_eq_getElem hi]
  exact h1
theorem drop_next {α : Type} {xs ys : List α} {i : Nat} {y : α} (h : xs.drop i = y :: ys) : xs.drop (i + 1) = ys := by
  have hi := drop_lt h
  rw [List.drop_eq_getElem_cons hi] at h
  injection h with h1 h2
theorem drop_rd {xs ys : List Int} {i : Nat} {y : Int} (h : xs.drop i = y :: ys) : rd xs (i : Int) = y := by rw [rd_nat]; exact drop_get 0 h
theorem drop_mem {α : Type} {xs ys : List α} {i : Nat} {y : α} (h : xs.drop i = y :: ys) : y ∈ xs :=
  List.mem_of_mem_drop (i := i) (by rw [h]; exact List.mem_cons_self)
theorem next_i {n : Nat} {i : Nat} (hi : i < n) (hn : n ≤ 140737488351232) : wrap64 ((i : Int) + 1) = ((i + 1 : Nat) : Int) := by
  rw [w64 (by omega) (by omega)]; omega
end Go.Proofs.Ytcfbcoinbecdfaa.B
