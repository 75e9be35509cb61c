/- min(a, b) of two ints at an operation. -/
import Derived.Test.YtpjhdpfaogdboaaSto
namespace Go.Proofs.Ytpjhdpfaogdboaa
open Go.RowKit
theorem wpList_min {P : Program} {w : World} {ops : Array Oper} {rest : List Oper} {o : Oper} {a : Act} {Q : Exit → Act → World → Prop} (hgd : o.guard = none) (x y : Operand) (ts : Array TypeId)
    (ho : o.op = .call { callee := .builtin .min, args := #[x, y], argTypes := ts }) (m n r : Int) (hx : a.eval x = .int .i64 m) (hy : a.eval y = .int .i64 n) (hr : (if n < m then n else m) = r)
    (h : wpList P ops Q rest (a.put o.dst (.int .i64 r)) w) : wpList P ops Q (o :: rest) a w := by
  refine wpList_run (v := .int .i64 r) hgd ?_ h
  subst hr
  simp [execOp, ho, resolve, invoke, builtin, hx, hy, Builtin.min_, Builtin.min2, Result.andThen]
end Go.Proofs.Ytpjhdpfaogdboaa
