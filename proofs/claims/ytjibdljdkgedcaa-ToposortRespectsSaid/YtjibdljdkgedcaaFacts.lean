/-
  The closed facts of the seat's type table that the abstract layer uses, printed by program. No condition.
-/
import Derived.Test.YtjibdljdkgedcaaAbs16
import Derived.Test.YtjibdljdkgedcaaProg
import Derived.KernelRfl
set_option linter.unusedSimpArgs false
set_option linter.unusedVariables false
namespace Go.Proofs.Ytjibdljdkgedcaa.Facts
open Go.Proofs.Ytjibdljdkgedcaa.Abs
@[go_sem] theorem isAggT1 : isAggT Try.prog 1 = false := by kernel_rfl
@[go_sem] theorem isOneT1 : isOneT Try.prog 1 = true := by kernel_rfl
@[go_sem] theorem elemT1 : elemT Try.prog 1 = none := by kernel_rfl
@[go_sem] theorem arrT1 : arrT Try.prog 1 = none := by kernel_rfl
@[go_sem] theorem intT1 : intT Try.prog 1 = none := by kernel_rfl
@[go_sem] theorem strT1 : strT Try.prog 1 = false := by kernel_rfl
@[go_sem] theorem boolT1 : boolT Try.prog 1 = false := by kernel_rfl
@[go_sem] theorem mapT1 : mapT Try.prog 1 = none := by kernel_rfl
@[go_sem] theorem sizeT1 : sizeT Try.prog 1 = 1 := by kernel_rfl
@[go_sem] theorem bytesT1 : bytesT Try.prog 1 = 8 := by kernel_rfl
@[go_sem] theorem zeroT1 : zeroT Try.prog 1 = some [D.nfun] := by kernel_rfl
@[go_sem] theorem hasZero1 : hasZero Try.prog 1 = true := by kernel_rfl
@[go_sem] theorem isAggT2 : isAggT Try.prog 2 = false := by kernel_rfl
@[go_sem] theorem isOneT2 : isOneT Try.prog 2 = true := by kernel_rfl
@[go_sem] theorem elemT2 : elemT Try.prog 2 = none := by kernel_rfl
@[go_sem] theorem arrT2 : arrT Try.prog 2 = none := by kernel_rfl
@[go_sem] theorem intT2 : intT Try.prog 2 = some .i64 := by kernel_rfl
@[go_sem] theorem strT2 : strT Try.prog 2 = false := by kernel_rfl
@[go_sem] theorem boolT2 : boolT Try.prog 2 = false := by kernel_rfl
@[go_sem] theorem mapT2 : mapT Try.prog 2 = none := by kernel_rfl
@[go_sem] theorem sizeT2 : sizeT Try.prog 2 = 1 := by kernel_rfl
@[go_sem] theorem bytesT2 : bytesT Try.prog 2 = 8 := by kernel_rfl
@[go_sem] theorem zeroT2 : zeroT Try.prog 2 = some [D.int .i64 0] := by kernel_rfl
@[go_sem] theorem hasZero2 : hasZero Try.prog 2 = true := by kernel_rfl
@[go_sem] theorem isAggT3 : isAggT Try.prog 3 = false := by kernel_rfl
@[go_sem] theorem isOneT3 : isOneT Try.prog 3 = true := by kernel_rfl
@[go_sem] theorem elemT3 : elemT Try.prog 3 = none := by kernel_rfl
@[go_sem] theorem arrT3 : arrT Try.prog 3 = none := by kernel_rfl
@[go_sem] theorem intT3 : intT Try.prog 3 = some .i64 := by kernel_rfl
@[go_sem] theorem strT3 : strT Try.prog 3 = false := by kernel_rfl
@[go_sem] theorem boolT3 : boolT Try.prog 3 = false := by kernel_rfl
@[go_sem] theorem mapT3 : mapT Try.prog 3 = none := by kernel_rfl
@[go_sem] theorem sizeT3 : sizeT Try.prog 3 = 1 := by kernel_rfl
@[go_sem] theorem bytesT3 : bytesT Try.prog 3 = 8 := by kernel_rfl
@[go_sem] theorem zeroT3 : zeroT Try.prog 3 = some [D.int .i64 0] := by kernel_rfl
@[go_sem] theorem hasZero3 : hasZero Try.prog 3 = true := by kernel_rfl
@[go_sem] theorem isAggT4 : isAggT Try.prog 4 = false := by kernel_rfl
@[go_sem] theorem isOneT4 : isOneT Try.prog 4 = true := by kernel_rfl
@[go_sem] theorem elemT4 : elemT Try.prog 4 = none := by kernel_rfl
@[go_sem] theorem arrT4 : arrT Try.prog 4 = none := by kernel_rfl
@[go_sem] theorem intT4 : intT Try.prog 4 = none := by kernel_rfl
@[go_sem] theorem strT4 : strT Try.prog 4 = false := by kernel_rfl
@[go_sem] theorem boolT4 : boolT Try.prog 4 = true := by kernel_rfl
@[go_sem] theorem mapT4 : mapT Try.prog 4 = none := by kernel_rfl
@[go_sem] theorem sizeT4 : sizeT Try.prog 4 = 1 := by kernel_rfl
@[go_sem] theorem bytesT4 : bytesT Try.prog 4 = 1 := by kernel_rfl
@[go_sem] theorem zeroT4 : zeroT Try.prog 4 = some [D.bool false] := by kernel_rfl
@[go_sem] theorem hasZero4 : hasZero Try.prog 4 = true := by kernel_rfl
@[go_sem] theorem isAggT9 : isAggT Try.prog 9 = false := by kernel_rfl
@[go_sem] theorem isOneT9 : isOneT Try.prog 9 = true := by kernel_rfl
@[go_sem] theorem elemT9 : elemT Try.prog 9 = none := by kernel_rfl
@[go_sem] theorem arrT9 : arrT Try.prog 9 = none := by kernel_rfl
@[go_sem] theorem intT9 : intT Try.prog 9 = none := by kernel_rfl
@[go_sem] theorem strT9 : strT Try.prog 9 = true := by kernel_rfl
@[go_sem] theorem boolT9 : boolT Try.prog 9 = false := by kernel_rfl
@[go_sem] theorem mapT9 : mapT Try.prog 9 = none := by kernel_rfl
@[go_sem] theorem sizeT9 : sizeT Try.prog 9 = 1 := by kernel_rfl
@[go_sem] theorem bytesT9 : bytesT Try.prog 9 = 16 := by kernel_rfl
@[go_sem] theorem zeroT9 : zeroT Try.prog 9 = some [D.str ByteArray.empty] := by kernel_rfl
@[go_sem] theorem hasZero9 : hasZero Try.prog 9 = true := by kernel_rfl
@[go_sem] theorem isAggT22 : isAggT Try.prog 22 = false := by kernel_rfl
@[go_sem] theorem isOneT22 : isOneT Try.prog 22 = true := by kernel_rfl
@[go_sem] theorem elemT22 : elemT Try.prog 22 = some 35 := by kernel_rfl
@[go_sem] theorem arrT22 : arrT Try.prog 22 = none := by kernel_rfl
@[go_sem] theorem intT22 : intT Try.prog 22 = none := by kernel_rfl
@[go_sem] theorem strT22 : strT Try.prog 22 = false := by kernel_rfl
@[go_sem] theorem boolT22 : boolT Try.prog 22 = false := by kernel_rfl
@[go_sem] theorem mapT22 : mapT Try.prog 22 = none := by kernel_rfl
@[go_sem] theorem sizeT22 : sizeT Try.prog 22 = 1 := by kernel_rfl
@[go_sem] theorem bytesT22 : bytesT Try.prog 22 = 24 := by kernel_rfl
@[go_sem] theorem zeroT22 : zeroT Try.prog 22 = some [D.nil] := by kernel_rfl
@[go_sem] theorem hasZero22 : hasZero Try.prog 22 = true := by kernel_rfl
@[go_sem] theorem isAggT24 : isAggT Try.prog 24 = false := by kernel_rfl
@[go_sem] theorem isOneT24 : isOneT Try.prog 24 = true := by kernel_rfl
@[go_sem] theorem elemT24 : elemT Try.prog 24 = some 3 := by kernel_rfl
@[go_sem] theorem arrT24 : arrT Try.prog 24 = none := by kernel_rfl
@[go_sem] theorem intT24 : intT Try.prog 24 = none := by kernel_rfl
@[go_sem] theorem strT24 : strT Try.prog 24 = false := by kernel_rfl
@[go_sem] theorem boolT24 : boolT Try.prog 24 = false := by kernel_rfl
@[go_sem] theorem mapT24 : mapT Try.prog 24 = none := by kernel_rfl
@[go_sem] theorem sizeT24 : sizeT Try.prog 24 = 1 := by kernel_rfl
@[go_sem] theorem bytesT24 : bytesT Try.prog 24 = 24 := by kernel_rfl
@[go_sem] theorem zeroT24 : zeroT Try.prog 24 = some [D.nil] := by kernel_rfl
@[go_sem] theorem hasZero24 : hasZero Try.prog 24 = true := by kernel_rfl
@[go_sem] theorem isAggT25 : isAggT Try.prog 25 = false := by kernel_rfl
@[go_sem] theorem isOneT25 : isOneT Try.prog 25 = true := by kernel_rfl
@[go_sem] theorem elemT25 : elemT Try.prog 25 = none := by kernel_rfl
@[go_sem] theorem arrT25 : arrT Try.prog 25 = none := by kernel_rfl
@[go_sem] theorem intT25 : intT Try.prog 25 = some .i64 := by kernel_rfl
@[go_sem] theorem strT25 : strT Try.prog 25 = false := by kernel_rfl
@[go_sem] theorem boolT25 : boolT Try.prog 25 = false := by kernel_rfl
@[go_sem] theorem mapT25 : mapT Try.prog 25 = none := by kernel_rfl
@[go_sem] theorem sizeT25 : sizeT Try.prog 25 = 1 := by kernel_rfl
@[go_sem] theorem bytesT25 : bytesT Try.prog 25 = 8 := by kernel_rfl
@[go_sem] theorem zeroT25 : zeroT Try.prog 25 = some [D.int .i64 0] := by kernel_rfl
@[go_sem] theorem hasZero25 : hasZero Try.prog 25 = true := by kernel_rfl
@[go_sem] theorem isAggT35 : isAggT Try.prog 35 = true := by kernel_rfl
@[go_sem] theorem isOneT35 : isOneT Try.prog 35 = false := by kernel_rfl
@[go_sem] theorem elemT35 : elemT Try.prog 35 = none := by kernel_rfl
@[go_sem] theorem arrT35 : arrT Try.prog 35 = none := by kernel_rfl
@[go_sem] theorem intT35 : intT Try.prog 35 = none := by kernel_rfl
@[go_sem] theorem strT35 : strT Try.prog 35 = false := by kernel_rfl
@[go_sem] theorem boolT35 : boolT Try.prog 35 = false := by kernel_rfl
@[go_sem] theorem mapT35 : mapT Try.prog 35 = none := by kernel_rfl
@[go_sem] theorem sizeT35 : sizeT Try.prog 35 = 2 := by kernel_rfl
@[go_sem] theorem bytesT35 : bytesT Try.prog 35 = 16 := by kernel_rfl
@[go_sem] theorem fieldsOK35 : fieldsOK Try.prog 35 = true := by kernel_rfl
@[go_sem] theorem fieldT35_0 : fieldT Try.prog 35 0 = some (0, 3) := by kernel_rfl
@[go_sem] theorem fieldT35_1 : fieldT Try.prog 35 1 = some (1, 3) := by kernel_rfl
@[go_sem] theorem zeroT35 : zeroT Try.prog 35 = some [D.int .i64 0, D.int .i64 0] := by kernel_rfl
@[go_sem] theorem hasZero35 : hasZero Try.prog 35 = true := by kernel_rfl
@[go_sem] theorem isAggT48 : isAggT Try.prog 48 = false := by kernel_rfl
@[go_sem] theorem isOneT48 : isOneT Try.prog 48 = true := by kernel_rfl
@[go_sem] theorem elemT48 : elemT Try.prog 48 = none := by kernel_rfl
@[go_sem] theorem arrT48 : arrT Try.prog 48 = none := by kernel_rfl
@[go_sem] theorem intT48 : intT Try.prog 48 = some .u64 := by kernel_rfl
@[go_sem] theorem strT48 : strT Try.prog 48 = false := by kernel_rfl
@[go_sem] theorem boolT48 : boolT Try.prog 48 = false := by kernel_rfl
@[go_sem] theorem mapT48 : mapT Try.prog 48 = none := by kernel_rfl
@[go_sem] theorem sizeT48 : sizeT Try.prog 48 = 1 := by kernel_rfl
@[go_sem] theorem bytesT48 : bytesT Try.prog 48 = 8 := by kernel_rfl
@[go_sem] theorem zeroT48 : zeroT Try.prog 48 = some [D.int .u64 0] := by kernel_rfl
@[go_sem] theorem hasZero48 : hasZero Try.prog 48 = true := by kernel_rfl
@[go_sem] theorem isAggT49 : isAggT Try.prog 49 = true := by kernel_rfl
@[go_sem] theorem isOneT49 : isOneT Try.prog 49 = false := by kernel_rfl
@[go_sem] theorem elemT49 : elemT Try.prog 49 = none := by kernel_rfl
@[go_sem] theorem arrT49 : arrT Try.prog 49 = some (16, 48) := by kernel_rfl
@[go_sem] theorem intT49 : intT Try.prog 49 = none := by kernel_rfl
@[go_sem] theorem strT49 : strT Try.prog 49 = false := by kernel_rfl
@[go_sem] theorem boolT49 : boolT Try.prog 49 = false := by kernel_rfl
@[go_sem] theorem mapT49 : mapT Try.prog 49 = none := by kernel_rfl
@[go_sem] theorem sizeT49 : sizeT Try.prog 49 = 16 := by kernel_rfl
@[go_sem] theorem bytesT49 : bytesT Try.prog 49 = 128 := by kernel_rfl
theorem zeroT49 : zeroT Try.prog 49 = some [D.int .u64 0, D.int .u64 0, D.int .u64 0, D.int .u64 0, D.int .u64 0, D.int .u64 0, D.int .u64 0, D.int .u64 0, D.int .u64 0, D.int .u64 0, D.int .u64 0, D.int .u64 0, D.int .u64 0, D.int .u64 0, D.int .u64 0, D.int .u64 0] := by kernel_rfl
@[go_sem] theorem hasZero49 : hasZero Try.prog 49 = true := by kernel_rfl
@[go_sem] theorem under49 : Try.prog.underlying 49 = some (.array 16 48) := by kernel_rfl
@[go_sem] theorem isAggT51 : isAggT Try.prog 51 = true := by kernel_rfl
@[go_sem] theorem isOneT51 : isOneT Try.prog 51 = false := by kernel_rfl
@[go_sem] theorem elemT51 : elemT Try.prog 51 = none := by kernel_rfl
@[go_sem] theorem arrT51 : arrT Try.prog 51 = none := by kernel_rfl
@[go_sem] theorem intT51 : intT Try.prog 51 = none := by kernel_rfl
@[go_sem] theorem strT51 : strT Try.prog 51 = false := by kernel_rfl
@[go_sem] theorem boolT51 : boolT Try.prog 51 = false := by kernel_rfl
@[go_sem] theorem mapT51 : mapT Try.prog 51 = none := by kernel_rfl
@[go_sem] theorem sizeT51 : sizeT Try.prog 51 = 17 := by kernel_rfl
@[go_sem] theorem bytesT51 : bytesT Try.prog 51 = 136 := by kernel_rfl
@[go_sem] theorem fieldsOK51 : fieldsOK Try.prog 51 = true := by kernel_rfl
@[go_sem] theorem fieldT51_0 : fieldT Try.prog 51 0 = some (0, 3) := by kernel_rfl
@[go_sem] theorem fieldT51_1 : fieldT Try.prog 51 1 = some (1, 49) := by kernel_rfl
theorem zeroT51 : zeroT Try.prog 51 = some [D.int .i64 0, D.int .u64 0, D.int .u64 0, D.int .u64 0, D.int .u64 0, D.int .u64 0, D.int .u64 0, D.int .u64 0, D.int .u64 0, D.int .u64 0, D.int .u64 0, D.int .u64 0, D.int .u64 0, D.int .u64 0, D.int .u64 0, D.int .u64 0, D.int .u64 0] := by kernel_rfl
@[go_sem] theorem hasZero51 : hasZero Try.prog 51 = true := by kernel_rfl
@[go_sem] theorem isAggT56 : isAggT Try.prog 56 = true := by kernel_rfl
@[go_sem] theorem isOneT56 : isOneT Try.prog 56 = false := by kernel_rfl
@[go_sem] theorem elemT56 : elemT Try.prog 56 = none := by kernel_rfl
@[go_sem] theorem arrT56 : arrT Try.prog 56 = some (16, 3) := by kernel_rfl
@[go_sem] theorem intT56 : intT Try.prog 56 = none := by kernel_rfl
@[go_sem] theorem strT56 : strT Try.prog 56 = false := by kernel_rfl
@[go_sem] theorem boolT56 : boolT Try.prog 56 = false := by kernel_rfl
@[go_sem] theorem mapT56 : mapT Try.prog 56 = none := by kernel_rfl
@[go_sem] theorem sizeT56 : sizeT Try.prog 56 = 16 := by kernel_rfl
@[go_sem] theorem bytesT56 : bytesT Try.prog 56 = 128 := by kernel_rfl
@[go_sem] theorem hasZero56 : hasZero Try.prog 56 = true := by kernel_rfl
@[go_sem] theorem under56 : Try.prog.underlying 56 = some (.array 16 3) := by kernel_rfl
@[go_sem] theorem isAggT57 : isAggT Try.prog 57 = true := by kernel_rfl
@[go_sem] theorem isOneT57 : isOneT Try.prog 57 = false := by kernel_rfl
@[go_sem] theorem elemT57 : elemT Try.prog 57 = none := by kernel_rfl
@[go_sem] theorem arrT57 : arrT Try.prog 57 = some (16, 56) := by kernel_rfl
@[go_sem] theorem intT57 : intT Try.prog 57 = none := by kernel_rfl
@[go_sem] theorem strT57 : strT Try.prog 57 = false := by kernel_rfl
@[go_sem] theorem boolT57 : boolT Try.prog 57 = false := by kernel_rfl
@[go_sem] theorem mapT57 : mapT Try.prog 57 = none := by kernel_rfl
@[go_sem] theorem sizeT57 : sizeT Try.prog 57 = 256 := by kernel_rfl
@[go_sem] theorem bytesT57 : bytesT Try.prog 57 = 2048 := by kernel_rfl
@[go_sem] theorem under57 : Try.prog.underlying 57 = some (.array 16 56) := by kernel_rfl
@[go_sem] theorem isAggT60 : isAggT Try.prog 60 = false := by kernel_rfl
@[go_sem] theorem isOneT60 : isOneT Try.prog 60 = true := by kernel_rfl
@[go_sem] theorem elemT60 : elemT Try.prog 60 = some 2 := by kernel_rfl
@[go_sem] theorem arrT60 : arrT Try.prog 60 = none := by kernel_rfl
@[go_sem] theorem intT60 : intT Try.prog 60 = none := by kernel_rfl
@[go_sem] theorem strT60 : strT Try.prog 60 = false := by kernel_rfl
@[go_sem] theorem boolT60 : boolT Try.prog 60 = false := by kernel_rfl
@[go_sem] theorem mapT60 : mapT Try.prog 60 = none := by kernel_rfl
@[go_sem] theorem sizeT60 : sizeT Try.prog 60 = 1 := by kernel_rfl
@[go_sem] theorem bytesT60 : bytesT Try.prog 60 = 24 := by kernel_rfl
@[go_sem] theorem zeroT60 : zeroT Try.prog 60 = some [D.nil] := by kernel_rfl
@[go_sem] theorem hasZero60 : hasZero Try.prog 60 = true := by kernel_rfl
@[go_sem] theorem isAggT63 : isAggT Try.prog 63 = false := by kernel_rfl
@[go_sem] theorem isOneT63 : isOneT Try.prog 63 = true := by kernel_rfl
@[go_sem] theorem elemT63 : elemT Try.prog 63 = none := by kernel_rfl
@[go_sem] theorem arrT63 : arrT Try.prog 63 = none := by kernel_rfl
@[go_sem] theorem intT63 : intT Try.prog 63 = none := by kernel_rfl
@[go_sem] theorem strT63 : strT Try.prog 63 = false := by kernel_rfl
@[go_sem] theorem boolT63 : boolT Try.prog 63 = false := by kernel_rfl
@[go_sem] theorem mapT63 : mapT Try.prog 63 = some (3, 3) := by kernel_rfl
@[go_sem] theorem sizeT63 : sizeT Try.prog 63 = 1 := by kernel_rfl
@[go_sem] theorem bytesT63 : bytesT Try.prog 63 = 8 := by kernel_rfl
@[go_sem] theorem zeroT63 : zeroT Try.prog 63 = some [D.nmp] := by kernel_rfl
@[go_sem] theorem hasZero63 : hasZero Try.prog 63 = true := by kernel_rfl
@[go_sem] theorem isAggT66 : isAggT Try.prog 66 = false := by kernel_rfl
@[go_sem] theorem isOneT66 : isOneT Try.prog 66 = true := by kernel_rfl
@[go_sem] theorem elemT66 : elemT Try.prog 66 = none := by kernel_rfl
@[go_sem] theorem arrT66 : arrT Try.prog 66 = none := by kernel_rfl
@[go_sem] theorem intT66 : intT Try.prog 66 = none := by kernel_rfl
@[go_sem] theorem strT66 : strT Try.prog 66 = false := by kernel_rfl
@[go_sem] theorem boolT66 : boolT Try.prog 66 = false := by kernel_rfl
@[go_sem] theorem mapT66 : mapT Try.prog 66 = none := by kernel_rfl
@[go_sem] theorem sizeT66 : sizeT Try.prog 66 = 1 := by kernel_rfl
@[go_sem] theorem bytesT66 : bytesT Try.prog 66 = 8 := by kernel_rfl
@[go_sem] theorem zeroT66 : zeroT Try.prog 66 = some [D.nfun] := by kernel_rfl
@[go_sem] theorem hasZero66 : hasZero Try.prog 66 = true := by kernel_rfl
@[go_sem] theorem ptrT80 : ptrT Try.prog 80 = true := by kernel_rfl
@[go_sem] theorem keyT3 : keyT Try.prog 3 = true := by kernel_rfl
@[go_sem] theorem zeroD3 : zeroD Try.prog 3 = some (D.int .i64 0) := by kernel_rfl
theorem eqD_struct {P : Program} {d : Nat} {t : TypeId} {fs : Array Field} {xs ys : List D} (hu : P.underlying t = some (.struct fs)) (hs : P.stoodInHeld t = false) : eqD P (d + 1) t (.agg xs) (.agg ys) = eqFieldsD (eqD P d) P xs ys fs.toList := by
  simp only [eqD, hu, hs, if_true]
theorem eqD_int {P : Program} {d : Nat} {t : TypeId} {k : IntKind} {a b : Int} (hu : P.underlying t = some (.int k)) : eqD P (d + 1) t (.int k a) (.int k b) = some (decide (a = b)) := by
  simp only [eqD, hu, if_true, Option.some.injEq]; by_cases h : a = b <;> simp [h]
theorem guardT34 : Try.prog.eqGuardType Try.prog.depth 34 = false := by kernel_rfl
theorem eqT34 (d : Nat) (a0 b0 : Int) (a1 b1 : Int) : eqD Try.prog (d + 2) 34 (.agg [.int .i64 a0, .int .i64 a1]) (.agg [.int .i64 b0, .int .i64 b1]) = some (decide (a0 = b0) && decide (a1 = b1)) := by
  rw [eqD_struct Try.underlying34 (by kernel_rfl)]
  simp only [eqFieldsD, takeD, List.getElem?_cons_zero, List.getElem?_cons_succ, List.drop_succ_cons, List.drop_zero, List.take_succ_cons, List.take_zero, List.length_cons, List.length_nil, Nat.reduceAdd, Nat.reduceLeDiff, if_true, if_false, Bool.false_eq_true, ne_eq, String.reduceEq, not_false_eq_true, decide_eq_true_eq, isAggT3, isOneT3, sizeT3, eqD_int Try.underlying3]
  (repeat' split) <;> simp_all
@[go_sem] theorem eqU34 (a0 b0 : Int) (a1 b1 : Int) : eqD Try.prog 8 34 (.agg [.int .i64 a0, .int .i64 a1]) (.agg [.int .i64 b0, .int .i64 b1]) = some (decide (a0 = b0) && decide (a1 = b1)) := eqT34 6 a0 b0 a1 b1
attribute [go_sem] guardT34
theorem guardT35 : Try.prog.eqGuardType Try.prog.depth 35 = false := by kernel_rfl
theorem eqT35 (d : Nat) (a0 b0 : Int) (a1 b1 : Int) : eqD Try.prog (d + 2) 35 (.agg [.int .i64 a0, .int .i64 a1]) (.agg [.int .i64 b0, .int .i64 b1]) = some (decide (a0 = b0) && decide (a1 = b1)) := by
  rw [eqD_struct Try.underlying35 (by kernel_rfl)]
  simp only [eqFieldsD, takeD, List.getElem?_cons_zero, List.getElem?_cons_succ, List.drop_succ_cons, List.drop_zero, List.take_succ_cons, List.take_zero, List.length_cons, List.length_nil, Nat.reduceAdd, Nat.reduceLeDiff, if_true, if_false, Bool.false_eq_true, ne_eq, String.reduceEq, not_false_eq_true, decide_eq_true_eq, isAggT3, isOneT3, sizeT3, eqD_int Try.underlying3]
  (repeat' split) <;> simp_all
@[go_sem] theorem eqU35 (a0 b0 : Int) (a1 b1 : Int) : eqD Try.prog 8 35 (.agg [.int .i64 a0, .int .i64 a1]) (.agg [.int .i64 b0, .int .i64 b1]) = some (decide (a0 = b0) && decide (a1 = b1)) := eqT35 6 a0 b0 a1 b1
attribute [go_sem] guardT35
@[go_sem] theorem eqUL3 (a b : Int) : eqD Try.prog 8 3 (.int .i64 a) (.int .i64 b) = some (decide (a = b)) := eqD_int Try.underlying3
theorem mixed : Try.prog.follows .mixedOrders = true := by kernel_rfl

end Go.Proofs.Ytjibdljdkgedcaa.Facts
