/-
  More operations' runs. Program-free.
-/
import Derived.Test.YtfemaeacmnhdlaaReg
import Derived.DeepKeys2
import Derived.ChangeKeysEq
namespace Go.Proofs.Ytfemaeacmnhdlaa
open Go.RowKit

section
variable {P : Program} {a : Act} {w w' : World} {o : Oper}
theorem r_convert {s d : TypeId} {x : Operand} (ho : o.op = .convert s d x) {u v : Value} (hx : a.eval x = u) (hr : (convert s d u).run P w = .ok v w') : RunV P o a w v w' := by
  unfold RunV execOp
  simp only [ho, hx, Sem.run_bind, hr, Result.andThen_ok, Sem.run_pure]
theorem r_makeSlice {t : TypeId} {x y : Operand} (ho : o.op = .makeSlice t x y) {u1 u2 v : Value} (hx : a.eval x = u1) (hy : a.eval y = u2) (hr : (Instr.makeSlice t u1 u2).run P w = .ok v w') : RunV P o a w v w' := by
  unfold RunV execOp
  simp only [ho, hx, hy, Sem.run_bind, hr, Result.andThen_ok, Sem.run_pure]
theorem r_pick {c x y : Operand} {b : Bool} (ho : o.op = .pick c x y) {v : Value} (hc : a.eval c = .bool b) (hv : (if b then a.eval x else a.eval y) = v) : RunV P o a w v w := by
  unfold RunV execOp
  simp only [ho, hc, asBool, Sem.run_bind, Sem.run_pure, Result.andThen_ok]
  rw [← hv]
theorem r_strNeq {t ty : TypeId} {x y : Operand} {l1 l2 : List UInt8} (ho : o.op = .binOp .neq t x y ty) (ht : P.underlying t = some .string) (hx : a.eval x = .string ⟨l1.toArray⟩) (hy : a.eval y = .string ⟨l2.toArray⟩) : RunV P o a w (.bool (!decide (l1 = l2))) w := by
  unfold RunV execOp
  simp only [ho, hx, hy]
  go_simp
  by_cases h : l1 = l2 <;> simp [h]
theorem r_strEql {t ty : TypeId} {x y : Operand} {l1 l2 : List UInt8} (ho : o.op = .binOp .eql t x y ty) (ht : P.underlying t = some .string) (hx : a.eval x = .string ⟨l1.toArray⟩) (hy : a.eval y = .string ⟨l2.toArray⟩) : RunV P o a w (.bool (decide (l1 = l2))) w := by
  unfold RunV execOp
  simp only [ho, hx, hy]
  go_simp
  by_cases h : l1 = l2 <;> simp [h]
theorem r_strNeq_same {t ty : TypeId} {x y : Operand} {l : List UInt8} (ho : o.op = .binOp .neq t x y ty) (ht : P.underlying t = some .string) (hx : a.eval x = .string ⟨l.toArray⟩) (hy : a.eval y = .string ⟨l.toArray⟩) : RunV P o a w (.bool false) w := by
  have h := r_strNeq (w := w) ho ht hx hy
  rwa [decide_eq_true rfl] at h
end
end Go.Proofs.Ytfemaeacmnhdlaa
