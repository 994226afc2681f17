/- Words of this session's own print: a call of a known function by a variable; math/bits.Sub64 as two numbers. -/
import Derived.Test.YtcfbcoinbecdfaaProg
import Derived.Test.YtcfbcoinbecdfaaWMore
import Derived.Shelf.Spec.BitsCarry
namespace Go.Proofs.YtcfbcoinbecdfaaW.PrintWords
open Go.RowKit
section
variable {P : Program} {ops : Array Oper} {rest : List Oper} {o : Oper} {a : Act} {Q : Exit → Act → World → Prop} {W : World}
/-- The operation is a call of what this variable holds. -/
theorem gate_tmp {t_ : Tmp} {as_ : Array Operand} {ts : Array TypeId} (_ho : o.op = .call { callee := .value (.tmp t_), args := as_, argTypes := ts }) (h : wpList P ops Q (o :: rest) a W) : wpList P ops Q (o :: rest) a W := h
/-- A call of a function that captures nothing, by a variable. -/
theorem goesT_ {rest : List Oper} {oi : Oper} {a : Act} {w : World} (N : Option Tmp) (hd : oi.dst = N) (hg : oi.guard = none) {f : FuncId} {fn : Func} {t : Tmp} {as_ : Array Operand} {ts : Array TypeId} (hf : P.funcs[f]? = some fn) (hname : (fn.name == "runtime.NumGoroutine") = false) (hb : fn.body.isSome = true) (args : Array Value)
    (hop : oi.op = .call { callee := .value (.tmp t), args := as_, argTypes := ts }) (ht : a.eval (.tmp t) = .func (.func f) #[] #[]) (hargs : as_.map a.eval = args)
    (h : Calls P f args w fun e w' => ∃ v, e = .returned v ∧ wpList P ops Q rest (a.put N v) w') : wpList P ops Q (oi :: rest) a w := by
  refine wpList_plain hg fun K hK => ?_
  have he := PrintLast.enters_ hf hname hb args w
  have hrun : (execOp a.eval oi).run P w = .ok (.enter f args) w := by
    unfold execOp
    simp [hop, resolve, Deferred.ofValue, invoke, ht, hargs, he]
  unfold Oper.wp
  rw [hrun, Oper.upon_enter]
  refine h.mono fun e w'' hh => ?_
  obtain ⟨v, rfl, hk⟩ := hh
  subst hd
  exact hK _ _ hk
end
/-- What math/bits.Sub64 tells, without a borrow coming in. -/
def sub64d (a b : Int) : Int := ((a.toNat + 18446744073709551616 - b.toNat) % 18446744073709551616 : Nat)
def sub64b (a b : Int) : Int := if a.toNat < b.toNat then 1 else 0
theorem run_sub64_ (a b : Int) (w : World) : (callFunc 128 #[.int .u64 a, .int .u64 b, .int .u64 0]).run Try.prog w = .ok (.value (.tuple #[.int .u64 (sub64d a b), .int .u64 (sub64b a b)])) w := by
  rw [run_callFunc_extern Try.func128 (by kernel_rfl) (by kernel_rfl) (by kernel_rfl) (e := sub64Entry) (by kernel_rfl)]
  have h : (sub64Entry #[.int .u64 a, .int .u64 b, .int .u64 0]).run Try.prog w = .ok (Extern.MathBitsCarry.pair ((a.toNat + Extern.MathBitsCarry.m64 - b.toNat - 0) % Extern.MathBitsCarry.m64) (if a.toNat < b.toNat + 0 then 1 else 0)) w := rfl
  rw [h]
  have e : ((if a.toNat < b.toNat + 0 then 1 else 0 : Nat) : Int) = sub64b a b := by unfold sub64b; rw [Nat.add_zero]; split <;> rfl
  have e2 : (((a.toNat + Extern.MathBitsCarry.m64 - b.toNat - 0) % Extern.MathBitsCarry.m64 : Nat) : Int) = sub64d a b := rfl
  show Result.ok (Next.value (Value.tuple #[.int .u64 (((a.toNat + Extern.MathBitsCarry.m64 - b.toNat - 0) % Extern.MathBitsCarry.m64 : Nat) : Int), .int .u64 ((if a.toNat < b.toNat + 0 then 1 else 0 : Nat) : Int)])) w = _
  rw [e, e2]
end Go.Proofs.YtcfbcoinbecdfaaW.PrintWords
