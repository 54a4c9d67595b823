/-
  The closed facts of the seat's type table that the abstract layer uses, printed by program. No condition.
-/
import Derived.Test.YtkhjpcmpljpmjaaDoorLayD
import Derived.Test.YtkhjpcmpljpmjaaDoorProg
import Derived.KernelRfl
set_option linter.unusedSimpArgs false
set_option linter.unusedVariables false
namespace Go.Proofs.YtkhjpcmpljpmjaaDoor.Facts
open Go.Proofs.YtkhjpcmpljpmjaaDoor.Abs
@[go_sem] theorem isAggT1 : isAggT Tryd.prog 1 = false := by kernel_rfl
@[go_sem] theorem isOneT1 : isOneT Tryd.prog 1 = true := by kernel_rfl
@[go_sem] theorem elemT1 : elemT Tryd.prog 1 = none := by kernel_rfl
@[go_sem] theorem arrT1 : arrT Tryd.prog 1 = none := by kernel_rfl
@[go_sem] theorem intT1 : intT Tryd.prog 1 = none := by kernel_rfl
@[go_sem] theorem strT1 : strT Tryd.prog 1 = false := by kernel_rfl
@[go_sem] theorem boolT1 : boolT Tryd.prog 1 = false := by kernel_rfl
@[go_sem] theorem mapT1 : mapT Tryd.prog 1 = none := by kernel_rfl
@[go_sem] theorem sizeT1 : sizeT Tryd.prog 1 = 1 := by kernel_rfl
@[go_sem] theorem bytesT1 : bytesT Tryd.prog 1 = 8 := by kernel_rfl
@[go_sem] theorem zeroT1 : zeroT Tryd.prog 1 = some [D.nfun] := by kernel_rfl
@[go_sem] theorem hasZero1 : hasZero Tryd.prog 1 = true := by kernel_rfl
@[go_sem] theorem isAggT2 : isAggT Tryd.prog 2 = false := by kernel_rfl
@[go_sem] theorem isOneT2 : isOneT Tryd.prog 2 = true := by kernel_rfl
@[go_sem] theorem elemT2 : elemT Tryd.prog 2 = none := by kernel_rfl
@[go_sem] theorem arrT2 : arrT Tryd.prog 2 = none := by kernel_rfl
@[go_sem] theorem intT2 : intT Tryd.prog 2 = some .i64 := by kernel_rfl
@[go_sem] theorem strT2 : strT Tryd.prog 2 = false := by kernel_rfl
@[go_sem] theorem boolT2 : boolT Tryd.prog 2 = false := by kernel_rfl
@[go_sem] theorem mapT2 : mapT Tryd.prog 2 = none := by kernel_rfl
@[go_sem] theorem sizeT2 : sizeT Tryd.prog 2 = 1 := by kernel_rfl
@[go_sem] theorem bytesT2 : bytesT Tryd.prog 2 = 8 := by kernel_rfl
@[go_sem] theorem zeroT2 : zeroT Tryd.prog 2 = some [D.int .i64 0] := by kernel_rfl
@[go_sem] theorem hasZero2 : hasZero Tryd.prog 2 = true := by kernel_rfl
@[go_sem] theorem isAggT3 : isAggT Tryd.prog 3 = false := by kernel_rfl
@[go_sem] theorem isOneT3 : isOneT Tryd.prog 3 = true := by kernel_rfl
@[go_sem] theorem elemT3 : elemT Tryd.prog 3 = none := by kernel_rfl
@[go_sem] theorem arrT3 : arrT Tryd.prog 3 = none := by kernel_rfl
@[go_sem] theorem intT3 : intT Tryd.prog 3 = some .i64 := by kernel_rfl
@[go_sem] theorem strT3 : strT Tryd.prog 3 = false := by kernel_rfl
@[go_sem] theorem boolT3 : boolT Tryd.prog 3 = false := by kernel_rfl
@[go_sem] theorem mapT3 : mapT Tryd.prog 3 = none := by kernel_rfl
@[go_sem] theorem sizeT3 : sizeT Tryd.prog 3 = 1 := by kernel_rfl
@[go_sem] theorem bytesT3 : bytesT Tryd.prog 3 = 8 := by kernel_rfl
@[go_sem] theorem zeroT3 : zeroT Tryd.prog 3 = some [D.int .i64 0] := by kernel_rfl
@[go_sem] theorem hasZero3 : hasZero Tryd.prog 3 = true := by kernel_rfl
@[go_sem] theorem isAggT4 : isAggT Tryd.prog 4 = false := by kernel_rfl
@[go_sem] theorem isOneT4 : isOneT Tryd.prog 4 = true := by kernel_rfl
@[go_sem] theorem elemT4 : elemT Tryd.prog 4 = none := by kernel_rfl
@[go_sem] theorem arrT4 : arrT Tryd.prog 4 = none := by kernel_rfl
@[go_sem] theorem intT4 : intT Tryd.prog 4 = none := by kernel_rfl
@[go_sem] theorem strT4 : strT Tryd.prog 4 = false := by kernel_rfl
@[go_sem] theorem boolT4 : boolT Tryd.prog 4 = true := by kernel_rfl
@[go_sem] theorem mapT4 : mapT Tryd.prog 4 = none := by kernel_rfl
@[go_sem] theorem sizeT4 : sizeT Tryd.prog 4 = 1 := by kernel_rfl
@[go_sem] theorem bytesT4 : bytesT Tryd.prog 4 = 1 := by kernel_rfl
@[go_sem] theorem zeroT4 : zeroT Tryd.prog 4 = some [D.bool false] := by kernel_rfl
@[go_sem] theorem hasZero4 : hasZero Tryd.prog 4 = true := by kernel_rfl
@[go_sem] theorem isAggT5 : isAggT Tryd.prog 5 = false := by kernel_rfl
@[go_sem] theorem isOneT5 : isOneT Tryd.prog 5 = true := by kernel_rfl
@[go_sem] theorem elemT5 : elemT Tryd.prog 5 = none := by kernel_rfl
@[go_sem] theorem arrT5 : arrT Tryd.prog 5 = none := by kernel_rfl
@[go_sem] theorem intT5 : intT Tryd.prog 5 = some .u8 := by kernel_rfl
@[go_sem] theorem strT5 : strT Tryd.prog 5 = false := by kernel_rfl
@[go_sem] theorem boolT5 : boolT Tryd.prog 5 = false := by kernel_rfl
@[go_sem] theorem mapT5 : mapT Tryd.prog 5 = none := by kernel_rfl
@[go_sem] theorem sizeT5 : sizeT Tryd.prog 5 = 1 := by kernel_rfl
@[go_sem] theorem bytesT5 : bytesT Tryd.prog 5 = 1 := by kernel_rfl
@[go_sem] theorem zeroT5 : zeroT Tryd.prog 5 = some [D.int .u8 0] := by kernel_rfl
@[go_sem] theorem hasZero5 : hasZero Tryd.prog 5 = true := by kernel_rfl
@[go_sem] theorem isAggT9 : isAggT Tryd.prog 9 = false := by kernel_rfl
@[go_sem] theorem isOneT9 : isOneT Tryd.prog 9 = true := by kernel_rfl
@[go_sem] theorem elemT9 : elemT Tryd.prog 9 = none := by kernel_rfl
@[go_sem] theorem arrT9 : arrT Tryd.prog 9 = none := by kernel_rfl
@[go_sem] theorem intT9 : intT Tryd.prog 9 = none := by kernel_rfl
@[go_sem] theorem strT9 : strT Tryd.prog 9 = true := by kernel_rfl
@[go_sem] theorem boolT9 : boolT Tryd.prog 9 = false := by kernel_rfl
@[go_sem] theorem mapT9 : mapT Tryd.prog 9 = none := by kernel_rfl
@[go_sem] theorem sizeT9 : sizeT Tryd.prog 9 = 1 := by kernel_rfl
@[go_sem] theorem bytesT9 : bytesT Tryd.prog 9 = 16 := by kernel_rfl
@[go_sem] theorem zeroT9 : zeroT Tryd.prog 9 = some [D.str ByteArray.empty] := by kernel_rfl
@[go_sem] theorem hasZero9 : hasZero Tryd.prog 9 = true := by kernel_rfl
@[go_sem] theorem isAggT12 : isAggT Tryd.prog 12 = false := by kernel_rfl
@[go_sem] theorem isOneT12 : isOneT Tryd.prog 12 = true := by kernel_rfl
@[go_sem] theorem elemT12 : elemT Tryd.prog 12 = none := by kernel_rfl
@[go_sem] theorem arrT12 : arrT Tryd.prog 12 = none := by kernel_rfl
@[go_sem] theorem intT12 : intT Tryd.prog 12 = some .u64 := by kernel_rfl
@[go_sem] theorem strT12 : strT Tryd.prog 12 = false := by kernel_rfl
@[go_sem] theorem boolT12 : boolT Tryd.prog 12 = false := by kernel_rfl
@[go_sem] theorem mapT12 : mapT Tryd.prog 12 = none := by kernel_rfl
@[go_sem] theorem sizeT12 : sizeT Tryd.prog 12 = 1 := by kernel_rfl
@[go_sem] theorem bytesT12 : bytesT Tryd.prog 12 = 8 := by kernel_rfl
@[go_sem] theorem zeroT12 : zeroT Tryd.prog 12 = some [D.int .u64 0] := by kernel_rfl
@[go_sem] theorem hasZero12 : hasZero Tryd.prog 12 = true := by kernel_rfl
@[go_sem] theorem isAggT13 : isAggT Tryd.prog 13 = true := by kernel_rfl
@[go_sem] theorem isOneT13 : isOneT Tryd.prog 13 = false := by kernel_rfl
@[go_sem] theorem elemT13 : elemT Tryd.prog 13 = none := by kernel_rfl
@[go_sem] theorem arrT13 : arrT Tryd.prog 13 = none := by kernel_rfl
@[go_sem] theorem intT13 : intT Tryd.prog 13 = none := by kernel_rfl
@[go_sem] theorem strT13 : strT Tryd.prog 13 = false := by kernel_rfl
@[go_sem] theorem boolT13 : boolT Tryd.prog 13 = false := by kernel_rfl
@[go_sem] theorem mapT13 : mapT Tryd.prog 13 = none := by kernel_rfl
@[go_sem] theorem sizeT13 : sizeT Tryd.prog 13 = 2 := by kernel_rfl
@[go_sem] theorem bytesT13 : bytesT Tryd.prog 13 = 24 := by kernel_rfl
@[go_sem] theorem fieldsOK13 : fieldsOK Tryd.prog 13 = true := by kernel_rfl
@[go_sem] theorem fieldT13_0 : fieldT Tryd.prog 13 0 = some (0, 9) := by kernel_rfl
@[go_sem] theorem fieldT13_1 : fieldT Tryd.prog 13 1 = some (1, 12) := by kernel_rfl
@[go_sem] theorem zeroT13 : zeroT Tryd.prog 13 = some [D.str ByteArray.empty, D.int .u64 0] := by kernel_rfl
@[go_sem] theorem hasZero13 : hasZero Tryd.prog 13 = true := by kernel_rfl
@[go_sem] theorem isAggT21 : isAggT Tryd.prog 21 = false := by kernel_rfl
@[go_sem] theorem isOneT21 : isOneT Tryd.prog 21 = true := by kernel_rfl
@[go_sem] theorem elemT21 : elemT Tryd.prog 21 = none := by kernel_rfl
@[go_sem] theorem arrT21 : arrT Tryd.prog 21 = none := by kernel_rfl
@[go_sem] theorem intT21 : intT Tryd.prog 21 = some .i32 := by kernel_rfl
@[go_sem] theorem strT21 : strT Tryd.prog 21 = false := by kernel_rfl
@[go_sem] theorem boolT21 : boolT Tryd.prog 21 = false := by kernel_rfl
@[go_sem] theorem mapT21 : mapT Tryd.prog 21 = none := by kernel_rfl
@[go_sem] theorem sizeT21 : sizeT Tryd.prog 21 = 1 := by kernel_rfl
@[go_sem] theorem bytesT21 : bytesT Tryd.prog 21 = 4 := by kernel_rfl
@[go_sem] theorem zeroT21 : zeroT Tryd.prog 21 = some [D.int .i32 0] := by kernel_rfl
@[go_sem] theorem hasZero21 : hasZero Tryd.prog 21 = true := by kernel_rfl
@[go_sem] theorem isAggT22 : isAggT Tryd.prog 22 = true := by kernel_rfl
@[go_sem] theorem isOneT22 : isOneT Tryd.prog 22 = false := by kernel_rfl
@[go_sem] theorem elemT22 : elemT Tryd.prog 22 = none := by kernel_rfl
@[go_sem] theorem arrT22 : arrT Tryd.prog 22 = none := by kernel_rfl
@[go_sem] theorem intT22 : intT Tryd.prog 22 = none := by kernel_rfl
@[go_sem] theorem strT22 : strT Tryd.prog 22 = false := by kernel_rfl
@[go_sem] theorem boolT22 : boolT Tryd.prog 22 = false := by kernel_rfl
@[go_sem] theorem mapT22 : mapT Tryd.prog 22 = none := by kernel_rfl
@[go_sem] theorem sizeT22 : sizeT Tryd.prog 22 = 3 := by kernel_rfl
@[go_sem] theorem bytesT22 : bytesT Tryd.prog 22 = 24 := by kernel_rfl
@[go_sem] theorem fieldsOK22 : fieldsOK Tryd.prog 22 = true := by kernel_rfl
@[go_sem] theorem fieldT22_0 : fieldT Tryd.prog 22 0 = some (0, 3) := by kernel_rfl
@[go_sem] theorem fieldT22_1 : fieldT Tryd.prog 22 1 = some (1, 3) := by kernel_rfl
@[go_sem] theorem fieldT22_2 : fieldT Tryd.prog 22 2 = some (2, 3) := by kernel_rfl
@[go_sem] theorem zeroT22 : zeroT Tryd.prog 22 = some [D.int .i64 0, D.int .i64 0, D.int .i64 0] := by kernel_rfl
@[go_sem] theorem hasZero22 : hasZero Tryd.prog 22 = true := by kernel_rfl
@[go_sem] theorem isAggT23 : isAggT Tryd.prog 23 = true := by kernel_rfl
@[go_sem] theorem isOneT23 : isOneT Tryd.prog 23 = false := by kernel_rfl
@[go_sem] theorem elemT23 : elemT Tryd.prog 23 = none := by kernel_rfl
@[go_sem] theorem arrT23 : arrT Tryd.prog 23 = none := by kernel_rfl
@[go_sem] theorem intT23 : intT Tryd.prog 23 = none := by kernel_rfl
@[go_sem] theorem strT23 : strT Tryd.prog 23 = false := by kernel_rfl
@[go_sem] theorem boolT23 : boolT Tryd.prog 23 = false := by kernel_rfl
@[go_sem] theorem mapT23 : mapT Tryd.prog 23 = none := by kernel_rfl
@[go_sem] theorem sizeT23 : sizeT Tryd.prog 23 = 3 := by kernel_rfl
@[go_sem] theorem bytesT23 : bytesT Tryd.prog 23 = 24 := by kernel_rfl
@[go_sem] theorem fieldsOK23 : fieldsOK Tryd.prog 23 = true := by kernel_rfl
@[go_sem] theorem fieldT23_0 : fieldT Tryd.prog 23 0 = some (0, 3) := by kernel_rfl
@[go_sem] theorem fieldT23_1 : fieldT Tryd.prog 23 1 = some (1, 3) := by kernel_rfl
@[go_sem] theorem fieldT23_2 : fieldT Tryd.prog 23 2 = some (2, 3) := by kernel_rfl
@[go_sem] theorem zeroT23 : zeroT Tryd.prog 23 = some [D.int .i64 0, D.int .i64 0, D.int .i64 0] := by kernel_rfl
@[go_sem] theorem hasZero23 : hasZero Tryd.prog 23 = true := by kernel_rfl
@[go_sem] theorem isAggT24 : isAggT Tryd.prog 24 = false := by kernel_rfl
@[go_sem] theorem isOneT24 : isOneT Tryd.prog 24 = true := by kernel_rfl
@[go_sem] theorem elemT24 : elemT Tryd.prog 24 = some 37 := by kernel_rfl
@[go_sem] theorem arrT24 : arrT Tryd.prog 24 = none := by kernel_rfl
@[go_sem] theorem intT24 : intT Tryd.prog 24 = none := by kernel_rfl
@[go_sem] theorem strT24 : strT Tryd.prog 24 = false := by kernel_rfl
@[go_sem] theorem boolT24 : boolT Tryd.prog 24 = false := by kernel_rfl
@[go_sem] theorem mapT24 : mapT Tryd.prog 24 = none := by kernel_rfl
@[go_sem] theorem sizeT24 : sizeT Tryd.prog 24 = 1 := by kernel_rfl
@[go_sem] theorem bytesT24 : bytesT Tryd.prog 24 = 24 := by kernel_rfl
@[go_sem] theorem zeroT24 : zeroT Tryd.prog 24 = some [D.nil] := by kernel_rfl
@[go_sem] theorem hasZero24 : hasZero Tryd.prog 24 = true := by kernel_rfl
@[go_sem] theorem isAggT25 : isAggT Tryd.prog 25 = false := by kernel_rfl
@[go_sem] theorem isOneT25 : isOneT Tryd.prog 25 = true := by kernel_rfl
@[go_sem] theorem elemT25 : elemT Tryd.prog 25 = some 27 := by kernel_rfl
@[go_sem] theorem arrT25 : arrT Tryd.prog 25 = none := by kernel_rfl
@[go_sem] theorem intT25 : intT Tryd.prog 25 = none := by kernel_rfl
@[go_sem] theorem strT25 : strT Tryd.prog 25 = false := by kernel_rfl
@[go_sem] theorem boolT25 : boolT Tryd.prog 25 = false := by kernel_rfl
@[go_sem] theorem mapT25 : mapT Tryd.prog 25 = none := by kernel_rfl
@[go_sem] theorem sizeT25 : sizeT Tryd.prog 25 = 1 := by kernel_rfl
@[go_sem] theorem bytesT25 : bytesT Tryd.prog 25 = 24 := by kernel_rfl
@[go_sem] theorem zeroT25 : zeroT Tryd.prog 25 = some [D.nil] := by kernel_rfl
@[go_sem] theorem hasZero25 : hasZero Tryd.prog 25 = true := by kernel_rfl
@[go_sem] theorem isAggT26 : isAggT Tryd.prog 26 = true := by kernel_rfl
@[go_sem] theorem isOneT26 : isOneT Tryd.prog 26 = false := by kernel_rfl
@[go_sem] theorem elemT26 : elemT Tryd.prog 26 = none := by kernel_rfl
@[go_sem] theorem arrT26 : arrT Tryd.prog 26 = none := by kernel_rfl
@[go_sem] theorem intT26 : intT Tryd.prog 26 = none := by kernel_rfl
@[go_sem] theorem strT26 : strT Tryd.prog 26 = false := by kernel_rfl
@[go_sem] theorem boolT26 : boolT Tryd.prog 26 = false := by kernel_rfl
@[go_sem] theorem mapT26 : mapT Tryd.prog 26 = none := by kernel_rfl
@[go_sem] theorem sizeT26 : sizeT Tryd.prog 26 = 8 := by kernel_rfl
@[go_sem] theorem bytesT26 : bytesT Tryd.prog 26 = 120 := by kernel_rfl
@[go_sem] theorem fieldsOK26 : fieldsOK Tryd.prog 26 = true := by kernel_rfl
@[go_sem] theorem fieldT26_0 : fieldT Tryd.prog 26 0 = some (0, 23) := by kernel_rfl
@[go_sem] theorem fieldT26_1 : fieldT Tryd.prog 26 1 = some (3, 3) := by kernel_rfl
@[go_sem] theorem fieldT26_2 : fieldT Tryd.prog 26 2 = some (4, 9) := by kernel_rfl
@[go_sem] theorem fieldT26_3 : fieldT Tryd.prog 26 3 = some (5, 24) := by kernel_rfl
@[go_sem] theorem fieldT26_4 : fieldT Tryd.prog 26 4 = some (6, 24) := by kernel_rfl
@[go_sem] theorem fieldT26_5 : fieldT Tryd.prog 26 5 = some (7, 25) := by kernel_rfl
@[go_sem] theorem zeroT26 : zeroT Tryd.prog 26 = some [D.int .i64 0, D.int .i64 0, D.int .i64 0, D.int .i64 0, D.str ByteArray.empty, D.nil, D.nil, D.nil] := by kernel_rfl
@[go_sem] theorem hasZero26 : hasZero Tryd.prog 26 = true := by kernel_rfl
@[go_sem] theorem isAggT27 : isAggT Tryd.prog 27 = true := by kernel_rfl
@[go_sem] theorem isOneT27 : isOneT Tryd.prog 27 = false := by kernel_rfl
@[go_sem] theorem elemT27 : elemT Tryd.prog 27 = none := by kernel_rfl
@[go_sem] theorem arrT27 : arrT Tryd.prog 27 = none := by kernel_rfl
@[go_sem] theorem intT27 : intT Tryd.prog 27 = none := by kernel_rfl
@[go_sem] theorem strT27 : strT Tryd.prog 27 = false := by kernel_rfl
@[go_sem] theorem boolT27 : boolT Tryd.prog 27 = false := by kernel_rfl
@[go_sem] theorem mapT27 : mapT Tryd.prog 27 = none := by kernel_rfl
@[go_sem] theorem sizeT27 : sizeT Tryd.prog 27 = 8 := by kernel_rfl
@[go_sem] theorem bytesT27 : bytesT Tryd.prog 27 = 120 := by kernel_rfl
@[go_sem] theorem fieldsOK27 : fieldsOK Tryd.prog 27 = true := by kernel_rfl
@[go_sem] theorem fieldT27_0 : fieldT Tryd.prog 27 0 = some (0, 23) := by kernel_rfl
@[go_sem] theorem fieldT27_1 : fieldT Tryd.prog 27 1 = some (3, 3) := by kernel_rfl
@[go_sem] theorem fieldT27_2 : fieldT Tryd.prog 27 2 = some (4, 9) := by kernel_rfl
@[go_sem] theorem fieldT27_3 : fieldT Tryd.prog 27 3 = some (5, 24) := by kernel_rfl
@[go_sem] theorem fieldT27_4 : fieldT Tryd.prog 27 4 = some (6, 24) := by kernel_rfl
@[go_sem] theorem fieldT27_5 : fieldT Tryd.prog 27 5 = some (7, 25) := by kernel_rfl
@[go_sem] theorem zeroT27 : zeroT Tryd.prog 27 = some [D.int .i64 0, D.int .i64 0, D.int .i64 0, D.int .i64 0, D.str ByteArray.empty, D.nil, D.nil, D.nil] := by kernel_rfl
@[go_sem] theorem hasZero27 : hasZero Tryd.prog 27 = true := by kernel_rfl
@[go_sem] theorem isAggT28 : isAggT Tryd.prog 28 = false := by kernel_rfl
@[go_sem] theorem isOneT28 : isOneT Tryd.prog 28 = true := by kernel_rfl
@[go_sem] theorem elemT28 : elemT Tryd.prog 28 = none := by kernel_rfl
@[go_sem] theorem arrT28 : arrT Tryd.prog 28 = none := by kernel_rfl
@[go_sem] theorem intT28 : intT Tryd.prog 28 = none := by kernel_rfl
@[go_sem] theorem strT28 : strT Tryd.prog 28 = false := by kernel_rfl
@[go_sem] theorem boolT28 : boolT Tryd.prog 28 = false := by kernel_rfl
@[go_sem] theorem mapT28 : mapT Tryd.prog 28 = none := by kernel_rfl
@[go_sem] theorem sizeT28 : sizeT Tryd.prog 28 = 1 := by kernel_rfl
@[go_sem] theorem bytesT28 : bytesT Tryd.prog 28 = 8 := by kernel_rfl
@[go_sem] theorem zeroT28 : zeroT Tryd.prog 28 = some [D.nfun] := by kernel_rfl
@[go_sem] theorem hasZero28 : hasZero Tryd.prog 28 = true := by kernel_rfl
@[go_sem] theorem isAggT29 : isAggT Tryd.prog 29 = false := by kernel_rfl
@[go_sem] theorem isOneT29 : isOneT Tryd.prog 29 = true := by kernel_rfl
@[go_sem] theorem elemT29 : elemT Tryd.prog 29 = none := by kernel_rfl
@[go_sem] theorem arrT29 : arrT Tryd.prog 29 = none := by kernel_rfl
@[go_sem] theorem intT29 : intT Tryd.prog 29 = none := by kernel_rfl
@[go_sem] theorem strT29 : strT Tryd.prog 29 = false := by kernel_rfl
@[go_sem] theorem boolT29 : boolT Tryd.prog 29 = false := by kernel_rfl
@[go_sem] theorem mapT29 : mapT Tryd.prog 29 = none := by kernel_rfl
@[go_sem] theorem sizeT29 : sizeT Tryd.prog 29 = 1 := by kernel_rfl
@[go_sem] theorem bytesT29 : bytesT Tryd.prog 29 = 8 := by kernel_rfl
@[go_sem] theorem zeroT29 : zeroT Tryd.prog 29 = some [D.nfun] := by kernel_rfl
@[go_sem] theorem hasZero29 : hasZero Tryd.prog 29 = true := by kernel_rfl
@[go_sem] theorem isAggT30 : isAggT Tryd.prog 30 = false := by kernel_rfl
@[go_sem] theorem isOneT30 : isOneT Tryd.prog 30 = true := by kernel_rfl
@[go_sem] theorem elemT30 : elemT Tryd.prog 30 = none := by kernel_rfl
@[go_sem] theorem arrT30 : arrT Tryd.prog 30 = none := by kernel_rfl
@[go_sem] theorem intT30 : intT Tryd.prog 30 = none := by kernel_rfl
@[go_sem] theorem strT30 : strT Tryd.prog 30 = false := by kernel_rfl
@[go_sem] theorem boolT30 : boolT Tryd.prog 30 = false := by kernel_rfl
@[go_sem] theorem mapT30 : mapT Tryd.prog 30 = none := by kernel_rfl
@[go_sem] theorem sizeT30 : sizeT Tryd.prog 30 = 1 := by kernel_rfl
@[go_sem] theorem bytesT30 : bytesT Tryd.prog 30 = 8 := by kernel_rfl
@[go_sem] theorem zeroT30 : zeroT Tryd.prog 30 = some [D.nfun] := by kernel_rfl
@[go_sem] theorem hasZero30 : hasZero Tryd.prog 30 = true := by kernel_rfl
@[go_sem] theorem isAggT31 : isAggT Tryd.prog 31 = false := by kernel_rfl
@[go_sem] theorem isOneT31 : isOneT Tryd.prog 31 = true := by kernel_rfl
@[go_sem] theorem elemT31 : elemT Tryd.prog 31 = none := by kernel_rfl
@[go_sem] theorem arrT31 : arrT Tryd.prog 31 = none := by kernel_rfl
@[go_sem] theorem intT31 : intT Tryd.prog 31 = none := by kernel_rfl
@[go_sem] theorem strT31 : strT Tryd.prog 31 = false := by kernel_rfl
@[go_sem] theorem boolT31 : boolT Tryd.prog 31 = false := by kernel_rfl
@[go_sem] theorem mapT31 : mapT Tryd.prog 31 = none := by kernel_rfl
@[go_sem] theorem sizeT31 : sizeT Tryd.prog 31 = 1 := by kernel_rfl
@[go_sem] theorem bytesT31 : bytesT Tryd.prog 31 = 8 := by kernel_rfl
@[go_sem] theorem zeroT31 : zeroT Tryd.prog 31 = some [D.nfun] := by kernel_rfl
@[go_sem] theorem hasZero31 : hasZero Tryd.prog 31 = true := by kernel_rfl
@[go_sem] theorem isAggT32 : isAggT Tryd.prog 32 = false := by kernel_rfl
@[go_sem] theorem isOneT32 : isOneT Tryd.prog 32 = true := by kernel_rfl
@[go_sem] theorem elemT32 : elemT Tryd.prog 32 = none := by kernel_rfl
@[go_sem] theorem arrT32 : arrT Tryd.prog 32 = none := by kernel_rfl
@[go_sem] theorem intT32 : intT Tryd.prog 32 = none := by kernel_rfl
@[go_sem] theorem strT32 : strT Tryd.prog 32 = false := by kernel_rfl
@[go_sem] theorem boolT32 : boolT Tryd.prog 32 = false := by kernel_rfl
@[go_sem] theorem mapT32 : mapT Tryd.prog 32 = none := by kernel_rfl
@[go_sem] theorem sizeT32 : sizeT Tryd.prog 32 = 1 := by kernel_rfl
@[go_sem] theorem bytesT32 : bytesT Tryd.prog 32 = 8 := by kernel_rfl
@[go_sem] theorem zeroT32 : zeroT Tryd.prog 32 = some [D.nfun] := by kernel_rfl
@[go_sem] theorem hasZero32 : hasZero Tryd.prog 32 = true := by kernel_rfl
@[go_sem] theorem isAggT33 : isAggT Tryd.prog 33 = false := by kernel_rfl
@[go_sem] theorem isOneT33 : isOneT Tryd.prog 33 = true := by kernel_rfl
@[go_sem] theorem elemT33 : elemT Tryd.prog 33 = none := by kernel_rfl
@[go_sem] theorem arrT33 : arrT Tryd.prog 33 = none := by kernel_rfl
@[go_sem] theorem intT33 : intT Tryd.prog 33 = none := by kernel_rfl
@[go_sem] theorem strT33 : strT Tryd.prog 33 = false := by kernel_rfl
@[go_sem] theorem boolT33 : boolT Tryd.prog 33 = false := by kernel_rfl
@[go_sem] theorem mapT33 : mapT Tryd.prog 33 = none := by kernel_rfl
@[go_sem] theorem sizeT33 : sizeT Tryd.prog 33 = 1 := by kernel_rfl
@[go_sem] theorem bytesT33 : bytesT Tryd.prog 33 = 8 := by kernel_rfl
@[go_sem] theorem zeroT33 : zeroT Tryd.prog 33 = some [D.nfun] := by kernel_rfl
@[go_sem] theorem hasZero33 : hasZero Tryd.prog 33 = true := by kernel_rfl
@[go_sem] theorem isAggT34 : isAggT Tryd.prog 34 = true := by kernel_rfl
@[go_sem] theorem isOneT34 : isOneT Tryd.prog 34 = false := by kernel_rfl
@[go_sem] theorem elemT34 : elemT Tryd.prog 34 = none := by kernel_rfl
@[go_sem] theorem arrT34 : arrT Tryd.prog 34 = none := by kernel_rfl
@[go_sem] theorem intT34 : intT Tryd.prog 34 = none := by kernel_rfl
@[go_sem] theorem strT34 : strT Tryd.prog 34 = false := by kernel_rfl
@[go_sem] theorem boolT34 : boolT Tryd.prog 34 = false := by kernel_rfl
@[go_sem] theorem mapT34 : mapT Tryd.prog 34 = none := by kernel_rfl
@[go_sem] theorem sizeT34 : sizeT Tryd.prog 34 = 3 := by kernel_rfl
@[go_sem] theorem bytesT34 : bytesT Tryd.prog 34 = 24 := by kernel_rfl
@[go_sem] theorem fieldsOK34 : fieldsOK Tryd.prog 34 = true := by kernel_rfl
@[go_sem] theorem fieldT34_0 : fieldT Tryd.prog 34 0 = some (0, 3) := by kernel_rfl
@[go_sem] theorem fieldT34_1 : fieldT Tryd.prog 34 1 = some (1, 3) := by kernel_rfl
@[go_sem] theorem fieldT34_2 : fieldT Tryd.prog 34 2 = some (2, 3) := by kernel_rfl
@[go_sem] theorem zeroT34 : zeroT Tryd.prog 34 = some [D.int .i64 0, D.int .i64 0, D.int .i64 0] := by kernel_rfl
@[go_sem] theorem hasZero34 : hasZero Tryd.prog 34 = true := by kernel_rfl
@[go_sem] theorem isAggT35 : isAggT Tryd.prog 35 = true := by kernel_rfl
@[go_sem] theorem isOneT35 : isOneT Tryd.prog 35 = false := by kernel_rfl
@[go_sem] theorem elemT35 : elemT Tryd.prog 35 = none := by kernel_rfl
@[go_sem] theorem arrT35 : arrT Tryd.prog 35 = none := by kernel_rfl
@[go_sem] theorem intT35 : intT Tryd.prog 35 = none := by kernel_rfl
@[go_sem] theorem strT35 : strT Tryd.prog 35 = false := by kernel_rfl
@[go_sem] theorem boolT35 : boolT Tryd.prog 35 = false := by kernel_rfl
@[go_sem] theorem mapT35 : mapT Tryd.prog 35 = none := by kernel_rfl
@[go_sem] theorem sizeT35 : sizeT Tryd.prog 35 = 3 := by kernel_rfl
@[go_sem] theorem bytesT35 : bytesT Tryd.prog 35 = 24 := by kernel_rfl
@[go_sem] theorem fieldsOK35 : fieldsOK Tryd.prog 35 = true := by kernel_rfl
@[go_sem] theorem fieldT35_0 : fieldT Tryd.prog 35 0 = some (0, 3) := by kernel_rfl
@[go_sem] theorem fieldT35_1 : fieldT Tryd.prog 35 1 = some (1, 3) := by kernel_rfl
@[go_sem] theorem fieldT35_2 : fieldT Tryd.prog 35 2 = some (2, 3) := by kernel_rfl
@[go_sem] theorem zeroT35 : zeroT Tryd.prog 35 = some [D.int .i64 0, D.int .i64 0, D.int .i64 0] := by kernel_rfl
@[go_sem] theorem hasZero35 : hasZero Tryd.prog 35 = true := by kernel_rfl
@[go_sem] theorem isAggT36 : isAggT Tryd.prog 36 = true := by kernel_rfl
@[go_sem] theorem isOneT36 : isOneT Tryd.prog 36 = false := by kernel_rfl
@[go_sem] theorem elemT36 : elemT Tryd.prog 36 = none := by kernel_rfl
@[go_sem] theorem arrT36 : arrT Tryd.prog 36 = none := by kernel_rfl
@[go_sem] theorem intT36 : intT Tryd.prog 36 = none := by kernel_rfl
@[go_sem] theorem strT36 : strT Tryd.prog 36 = false := by kernel_rfl
@[go_sem] theorem boolT36 : boolT Tryd.prog 36 = false := by kernel_rfl
@[go_sem] theorem mapT36 : mapT Tryd.prog 36 = none := by kernel_rfl
@[go_sem] theorem sizeT36 : sizeT Tryd.prog 36 = 4 := by kernel_rfl
@[go_sem] theorem bytesT36 : bytesT Tryd.prog 36 = 40 := by kernel_rfl
@[go_sem] theorem fieldsOK36 : fieldsOK Tryd.prog 36 = true := by kernel_rfl
@[go_sem] theorem fieldT36_0 : fieldT Tryd.prog 36 0 = some (0, 9) := by kernel_rfl
@[go_sem] theorem fieldT36_1 : fieldT Tryd.prog 36 1 = some (1, 35) := by kernel_rfl
@[go_sem] theorem zeroT36 : zeroT Tryd.prog 36 = some [D.str ByteArray.empty, D.int .i64 0, D.int .i64 0, D.int .i64 0] := by kernel_rfl
@[go_sem] theorem hasZero36 : hasZero Tryd.prog 36 = true := by kernel_rfl
@[go_sem] theorem isAggT37 : isAggT Tryd.prog 37 = true := by kernel_rfl
@[go_sem] theorem isOneT37 : isOneT Tryd.prog 37 = false := by kernel_rfl
@[go_sem] theorem elemT37 : elemT Tryd.prog 37 = none := by kernel_rfl
@[go_sem] theorem arrT37 : arrT Tryd.prog 37 = none := by kernel_rfl
@[go_sem] theorem intT37 : intT Tryd.prog 37 = none := by kernel_rfl
@[go_sem] theorem strT37 : strT Tryd.prog 37 = false := by kernel_rfl
@[go_sem] theorem boolT37 : boolT Tryd.prog 37 = false := by kernel_rfl
@[go_sem] theorem mapT37 : mapT Tryd.prog 37 = none := by kernel_rfl
@[go_sem] theorem sizeT37 : sizeT Tryd.prog 37 = 4 := by kernel_rfl
@[go_sem] theorem bytesT37 : bytesT Tryd.prog 37 = 40 := by kernel_rfl
@[go_sem] theorem fieldsOK37 : fieldsOK Tryd.prog 37 = true := by kernel_rfl
@[go_sem] theorem fieldT37_0 : fieldT Tryd.prog 37 0 = some (0, 9) := by kernel_rfl
@[go_sem] theorem fieldT37_1 : fieldT Tryd.prog 37 1 = some (1, 35) := by kernel_rfl
@[go_sem] theorem zeroT37 : zeroT Tryd.prog 37 = some [D.str ByteArray.empty, D.int .i64 0, D.int .i64 0, D.int .i64 0] := by kernel_rfl
@[go_sem] theorem hasZero37 : hasZero Tryd.prog 37 = true := by kernel_rfl
@[go_sem] theorem isAggT38 : isAggT Tryd.prog 38 = false := by kernel_rfl
@[go_sem] theorem isOneT38 : isOneT Tryd.prog 38 = true := by kernel_rfl
@[go_sem] theorem elemT38 : elemT Tryd.prog 38 = some 5 := by kernel_rfl
@[go_sem] theorem arrT38 : arrT Tryd.prog 38 = none := by kernel_rfl
@[go_sem] theorem intT38 : intT Tryd.prog 38 = none := by kernel_rfl
@[go_sem] theorem strT38 : strT Tryd.prog 38 = false := by kernel_rfl
@[go_sem] theorem boolT38 : boolT Tryd.prog 38 = false := by kernel_rfl
@[go_sem] theorem mapT38 : mapT Tryd.prog 38 = none := by kernel_rfl
@[go_sem] theorem sizeT38 : sizeT Tryd.prog 38 = 1 := by kernel_rfl
@[go_sem] theorem bytesT38 : bytesT Tryd.prog 38 = 24 := by kernel_rfl
@[go_sem] theorem zeroT38 : zeroT Tryd.prog 38 = some [D.nil] := by kernel_rfl
@[go_sem] theorem hasZero38 : hasZero Tryd.prog 38 = true := by kernel_rfl
@[go_sem] theorem isAggT39 : isAggT Tryd.prog 39 = false := by kernel_rfl
@[go_sem] theorem isOneT39 : isOneT Tryd.prog 39 = true := by kernel_rfl
@[go_sem] theorem elemT39 : elemT Tryd.prog 39 = none := by kernel_rfl
@[go_sem] theorem arrT39 : arrT Tryd.prog 39 = none := by kernel_rfl
@[go_sem] theorem intT39 : intT Tryd.prog 39 = none := by kernel_rfl
@[go_sem] theorem strT39 : strT Tryd.prog 39 = false := by kernel_rfl
@[go_sem] theorem boolT39 : boolT Tryd.prog 39 = false := by kernel_rfl
@[go_sem] theorem mapT39 : mapT Tryd.prog 39 = none := by kernel_rfl
@[go_sem] theorem sizeT39 : sizeT Tryd.prog 39 = 1 := by kernel_rfl
@[go_sem] theorem bytesT39 : bytesT Tryd.prog 39 = 8 := by kernel_rfl
@[go_sem] theorem zeroT39 : zeroT Tryd.prog 39 = some [D.nfun] := by kernel_rfl
@[go_sem] theorem hasZero39 : hasZero Tryd.prog 39 = true := by kernel_rfl
@[go_sem] theorem isAggT40 : isAggT Tryd.prog 40 = false := by kernel_rfl
@[go_sem] theorem isOneT40 : isOneT Tryd.prog 40 = true := by kernel_rfl
@[go_sem] theorem elemT40 : elemT Tryd.prog 40 = none := by kernel_rfl
@[go_sem] theorem arrT40 : arrT Tryd.prog 40 = none := by kernel_rfl
@[go_sem] theorem intT40 : intT Tryd.prog 40 = none := by kernel_rfl
@[go_sem] theorem strT40 : strT Tryd.prog 40 = false := by kernel_rfl
@[go_sem] theorem boolT40 : boolT Tryd.prog 40 = false := by kernel_rfl
@[go_sem] theorem mapT40 : mapT Tryd.prog 40 = none := by kernel_rfl
@[go_sem] theorem sizeT40 : sizeT Tryd.prog 40 = 1 := by kernel_rfl
@[go_sem] theorem bytesT40 : bytesT Tryd.prog 40 = 8 := by kernel_rfl
@[go_sem] theorem zeroT40 : zeroT Tryd.prog 40 = some [D.nfun] := by kernel_rfl
@[go_sem] theorem hasZero40 : hasZero Tryd.prog 40 = true := by kernel_rfl
@[go_sem] theorem isAggT42 : isAggT Tryd.prog 42 = false := by kernel_rfl
@[go_sem] theorem isOneT42 : isOneT Tryd.prog 42 = true := by kernel_rfl
@[go_sem] theorem elemT42 : elemT Tryd.prog 42 = none := by kernel_rfl
@[go_sem] theorem arrT42 : arrT Tryd.prog 42 = none := by kernel_rfl
@[go_sem] theorem intT42 : intT Tryd.prog 42 = none := by kernel_rfl
@[go_sem] theorem strT42 : strT Tryd.prog 42 = false := by kernel_rfl
@[go_sem] theorem boolT42 : boolT Tryd.prog 42 = false := by kernel_rfl
@[go_sem] theorem mapT42 : mapT Tryd.prog 42 = none := by kernel_rfl
@[go_sem] theorem sizeT42 : sizeT Tryd.prog 42 = 1 := by kernel_rfl
@[go_sem] theorem bytesT42 : bytesT Tryd.prog 42 = 8 := by kernel_rfl
@[go_sem] theorem zeroT42 : zeroT Tryd.prog 42 = some [D.nfun] := by kernel_rfl
@[go_sem] theorem hasZero42 : hasZero Tryd.prog 42 = true := by kernel_rfl
@[go_sem] theorem isAggT44 : isAggT Tryd.prog 44 = false := by kernel_rfl
@[go_sem] theorem isOneT44 : isOneT Tryd.prog 44 = true := by kernel_rfl
@[go_sem] theorem elemT44 : elemT Tryd.prog 44 = none := by kernel_rfl
@[go_sem] theorem arrT44 : arrT Tryd.prog 44 = none := by kernel_rfl
@[go_sem] theorem intT44 : intT Tryd.prog 44 = none := by kernel_rfl
@[go_sem] theorem strT44 : strT Tryd.prog 44 = false := by kernel_rfl
@[go_sem] theorem boolT44 : boolT Tryd.prog 44 = false := by kernel_rfl
@[go_sem] theorem mapT44 : mapT Tryd.prog 44 = none := by kernel_rfl
@[go_sem] theorem sizeT44 : sizeT Tryd.prog 44 = 1 := by kernel_rfl
@[go_sem] theorem bytesT44 : bytesT Tryd.prog 44 = 8 := by kernel_rfl
@[go_sem] theorem zeroT44 : zeroT Tryd.prog 44 = some [D.nfun] := by kernel_rfl
@[go_sem] theorem hasZero44 : hasZero Tryd.prog 44 = true := by kernel_rfl
@[go_sem] theorem isAggT45 : isAggT Tryd.prog 45 = false := by kernel_rfl
@[go_sem] theorem isOneT45 : isOneT Tryd.prog 45 = true := by kernel_rfl
@[go_sem] theorem elemT45 : elemT Tryd.prog 45 = none := by kernel_rfl
@[go_sem] theorem arrT45 : arrT Tryd.prog 45 = none := by kernel_rfl
@[go_sem] theorem intT45 : intT Tryd.prog 45 = none := by kernel_rfl
@[go_sem] theorem strT45 : strT Tryd.prog 45 = false := by kernel_rfl
@[go_sem] theorem boolT45 : boolT Tryd.prog 45 = false := by kernel_rfl
@[go_sem] theorem mapT45 : mapT Tryd.prog 45 = none := by kernel_rfl
@[go_sem] theorem sizeT45 : sizeT Tryd.prog 45 = 1 := by kernel_rfl
@[go_sem] theorem bytesT45 : bytesT Tryd.prog 45 = 8 := by kernel_rfl
@[go_sem] theorem zeroT45 : zeroT Tryd.prog 45 = some [D.nfun] := by kernel_rfl
@[go_sem] theorem hasZero45 : hasZero Tryd.prog 45 = true := by kernel_rfl
@[go_sem] theorem isAggT46 : isAggT Tryd.prog 46 = false := by kernel_rfl
@[go_sem] theorem isOneT46 : isOneT Tryd.prog 46 = true := by kernel_rfl
@[go_sem] theorem elemT46 : elemT Tryd.prog 46 = some 23 := by kernel_rfl
@[go_sem] theorem arrT46 : arrT Tryd.prog 46 = none := by kernel_rfl
@[go_sem] theorem intT46 : intT Tryd.prog 46 = none := by kernel_rfl
@[go_sem] theorem strT46 : strT Tryd.prog 46 = false := by kernel_rfl
@[go_sem] theorem boolT46 : boolT Tryd.prog 46 = false := by kernel_rfl
@[go_sem] theorem mapT46 : mapT Tryd.prog 46 = none := by kernel_rfl
@[go_sem] theorem sizeT46 : sizeT Tryd.prog 46 = 1 := by kernel_rfl
@[go_sem] theorem bytesT46 : bytesT Tryd.prog 46 = 24 := by kernel_rfl
@[go_sem] theorem zeroT46 : zeroT Tryd.prog 46 = some [D.nil] := by kernel_rfl
@[go_sem] theorem hasZero46 : hasZero Tryd.prog 46 = true := by kernel_rfl
@[go_sem] theorem isAggT47 : isAggT Tryd.prog 47 = false := by kernel_rfl
@[go_sem] theorem isOneT47 : isOneT Tryd.prog 47 = true := by kernel_rfl
@[go_sem] theorem elemT47 : elemT Tryd.prog 47 = none := by kernel_rfl
@[go_sem] theorem arrT47 : arrT Tryd.prog 47 = none := by kernel_rfl
@[go_sem] theorem intT47 : intT Tryd.prog 47 = none := by kernel_rfl
@[go_sem] theorem strT47 : strT Tryd.prog 47 = false := by kernel_rfl
@[go_sem] theorem boolT47 : boolT Tryd.prog 47 = false := by kernel_rfl
@[go_sem] theorem mapT47 : mapT Tryd.prog 47 = none := by kernel_rfl
@[go_sem] theorem sizeT47 : sizeT Tryd.prog 47 = 1 := by kernel_rfl
@[go_sem] theorem bytesT47 : bytesT Tryd.prog 47 = 8 := by kernel_rfl
@[go_sem] theorem zeroT47 : zeroT Tryd.prog 47 = some [D.nfun] := by kernel_rfl
@[go_sem] theorem hasZero47 : hasZero Tryd.prog 47 = true := by kernel_rfl
@[go_sem] theorem isAggT48 : isAggT Tryd.prog 48 = false := by kernel_rfl
@[go_sem] theorem isOneT48 : isOneT Tryd.prog 48 = true := by kernel_rfl
@[go_sem] theorem elemT48 : elemT Tryd.prog 48 = none := by kernel_rfl
@[go_sem] theorem arrT48 : arrT Tryd.prog 48 = none := by kernel_rfl
@[go_sem] theorem intT48 : intT Tryd.prog 48 = none := by kernel_rfl
@[go_sem] theorem strT48 : strT Tryd.prog 48 = false := by kernel_rfl
@[go_sem] theorem boolT48 : boolT Tryd.prog 48 = false := by kernel_rfl
@[go_sem] theorem mapT48 : mapT Tryd.prog 48 = none := by kernel_rfl
@[go_sem] theorem sizeT48 : sizeT Tryd.prog 48 = 1 := by kernel_rfl
@[go_sem] theorem bytesT48 : bytesT Tryd.prog 48 = 8 := by kernel_rfl
@[go_sem] theorem zeroT48 : zeroT Tryd.prog 48 = some [D.nfun] := by kernel_rfl
@[go_sem] theorem hasZero48 : hasZero Tryd.prog 48 = true := by kernel_rfl
@[go_sem] theorem isAggT49 : isAggT Tryd.prog 49 = false := by kernel_rfl
@[go_sem] theorem isOneT49 : isOneT Tryd.prog 49 = true := by kernel_rfl
@[go_sem] theorem elemT49 : elemT Tryd.prog 49 = none := by kernel_rfl
@[go_sem] theorem arrT49 : arrT Tryd.prog 49 = none := by kernel_rfl
@[go_sem] theorem intT49 : intT Tryd.prog 49 = none := by kernel_rfl
@[go_sem] theorem strT49 : strT Tryd.prog 49 = false := by kernel_rfl
@[go_sem] theorem boolT49 : boolT Tryd.prog 49 = false := by kernel_rfl
@[go_sem] theorem mapT49 : mapT Tryd.prog 49 = none := by kernel_rfl
@[go_sem] theorem sizeT49 : sizeT Tryd.prog 49 = 1 := by kernel_rfl
@[go_sem] theorem bytesT49 : bytesT Tryd.prog 49 = 8 := by kernel_rfl
@[go_sem] theorem zeroT49 : zeroT Tryd.prog 49 = some [D.nfun] := by kernel_rfl
@[go_sem] theorem hasZero49 : hasZero Tryd.prog 49 = true := by kernel_rfl
@[go_sem] theorem isAggT50 : isAggT Tryd.prog 50 = false := by kernel_rfl
@[go_sem] theorem isOneT50 : isOneT Tryd.prog 50 = true := by kernel_rfl
@[go_sem] theorem elemT50 : elemT Tryd.prog 50 = none := by kernel_rfl
@[go_sem] theorem arrT50 : arrT Tryd.prog 50 = none := by kernel_rfl
@[go_sem] theorem intT50 : intT Tryd.prog 50 = none := by kernel_rfl
@[go_sem] theorem strT50 : strT Tryd.prog 50 = false := by kernel_rfl
@[go_sem] theorem boolT50 : boolT Tryd.prog 50 = false := by kernel_rfl
@[go_sem] theorem mapT50 : mapT Tryd.prog 50 = none := by kernel_rfl
@[go_sem] theorem sizeT50 : sizeT Tryd.prog 50 = 1 := by kernel_rfl
@[go_sem] theorem bytesT50 : bytesT Tryd.prog 50 = 8 := by kernel_rfl
@[go_sem] theorem zeroT50 : zeroT Tryd.prog 50 = some [D.nfun] := by kernel_rfl
@[go_sem] theorem hasZero50 : hasZero Tryd.prog 50 = true := by kernel_rfl
@[go_sem] theorem isAggT51 : isAggT Tryd.prog 51 = false := by kernel_rfl
@[go_sem] theorem isOneT51 : isOneT Tryd.prog 51 = true := by kernel_rfl
@[go_sem] theorem elemT51 : elemT Tryd.prog 51 = none := by kernel_rfl
@[go_sem] theorem arrT51 : arrT Tryd.prog 51 = none := by kernel_rfl
@[go_sem] theorem intT51 : intT Tryd.prog 51 = none := by kernel_rfl
@[go_sem] theorem strT51 : strT Tryd.prog 51 = false := by kernel_rfl
@[go_sem] theorem boolT51 : boolT Tryd.prog 51 = false := by kernel_rfl
@[go_sem] theorem mapT51 : mapT Tryd.prog 51 = none := by kernel_rfl
@[go_sem] theorem sizeT51 : sizeT Tryd.prog 51 = 1 := by kernel_rfl
@[go_sem] theorem bytesT51 : bytesT Tryd.prog 51 = 8 := by kernel_rfl
@[go_sem] theorem zeroT51 : zeroT Tryd.prog 51 = some [D.nfun] := by kernel_rfl
@[go_sem] theorem hasZero51 : hasZero Tryd.prog 51 = true := by kernel_rfl
@[go_sem] theorem isAggT52 : isAggT Tryd.prog 52 = false := by kernel_rfl
@[go_sem] theorem isOneT52 : isOneT Tryd.prog 52 = true := by kernel_rfl
@[go_sem] theorem elemT52 : elemT Tryd.prog 52 = none := by kernel_rfl
@[go_sem] theorem arrT52 : arrT Tryd.prog 52 = none := by kernel_rfl
@[go_sem] theorem intT52 : intT Tryd.prog 52 = some .i64 := by kernel_rfl
@[go_sem] theorem strT52 : strT Tryd.prog 52 = false := by kernel_rfl
@[go_sem] theorem boolT52 : boolT Tryd.prog 52 = false := by kernel_rfl
@[go_sem] theorem mapT52 : mapT Tryd.prog 52 = none := by kernel_rfl
@[go_sem] theorem sizeT52 : sizeT Tryd.prog 52 = 1 := by kernel_rfl
@[go_sem] theorem bytesT52 : bytesT Tryd.prog 52 = 8 := by kernel_rfl
@[go_sem] theorem zeroT52 : zeroT Tryd.prog 52 = some [D.int .i64 0] := by kernel_rfl
@[go_sem] theorem hasZero52 : hasZero Tryd.prog 52 = true := by kernel_rfl
@[go_sem] theorem isAggT54 : isAggT Tryd.prog 54 = false := by kernel_rfl
@[go_sem] theorem isOneT54 : isOneT Tryd.prog 54 = true := by kernel_rfl
@[go_sem] theorem elemT54 : elemT Tryd.prog 54 = none := by kernel_rfl
@[go_sem] theorem arrT54 : arrT Tryd.prog 54 = none := by kernel_rfl
@[go_sem] theorem intT54 : intT Tryd.prog 54 = none := by kernel_rfl
@[go_sem] theorem strT54 : strT Tryd.prog 54 = false := by kernel_rfl
@[go_sem] theorem boolT54 : boolT Tryd.prog 54 = false := by kernel_rfl
@[go_sem] theorem mapT54 : mapT Tryd.prog 54 = none := by kernel_rfl
@[go_sem] theorem sizeT54 : sizeT Tryd.prog 54 = 1 := by kernel_rfl
@[go_sem] theorem bytesT54 : bytesT Tryd.prog 54 = 8 := by kernel_rfl
@[go_sem] theorem zeroT54 : zeroT Tryd.prog 54 = some [D.nfun] := by kernel_rfl
@[go_sem] theorem hasZero54 : hasZero Tryd.prog 54 = true := by kernel_rfl
@[go_sem] theorem isAggT56 : isAggT Tryd.prog 56 = false := by kernel_rfl
@[go_sem] theorem isOneT56 : isOneT Tryd.prog 56 = true := by kernel_rfl
@[go_sem] theorem elemT56 : elemT Tryd.prog 56 = none := by kernel_rfl
@[go_sem] theorem arrT56 : arrT Tryd.prog 56 = none := by kernel_rfl
@[go_sem] theorem intT56 : intT Tryd.prog 56 = none := by kernel_rfl
@[go_sem] theorem strT56 : strT Tryd.prog 56 = false := by kernel_rfl
@[go_sem] theorem boolT56 : boolT Tryd.prog 56 = false := by kernel_rfl
@[go_sem] theorem mapT56 : mapT Tryd.prog 56 = none := by kernel_rfl
@[go_sem] theorem sizeT56 : sizeT Tryd.prog 56 = 1 := by kernel_rfl
@[go_sem] theorem bytesT56 : bytesT Tryd.prog 56 = 8 := by kernel_rfl
@[go_sem] theorem zeroT56 : zeroT Tryd.prog 56 = some [D.nfun] := by kernel_rfl
@[go_sem] theorem hasZero56 : hasZero Tryd.prog 56 = true := by kernel_rfl
@[go_sem] theorem isAggT57 : isAggT Tryd.prog 57 = false := by kernel_rfl
@[go_sem] theorem isOneT57 : isOneT Tryd.prog 57 = true := by kernel_rfl
@[go_sem] theorem elemT57 : elemT Tryd.prog 57 = none := by kernel_rfl
@[go_sem] theorem arrT57 : arrT Tryd.prog 57 = none := by kernel_rfl
@[go_sem] theorem intT57 : intT Tryd.prog 57 = none := by kernel_rfl
@[go_sem] theorem strT57 : strT Tryd.prog 57 = false := by kernel_rfl
@[go_sem] theorem boolT57 : boolT Tryd.prog 57 = false := by kernel_rfl
@[go_sem] theorem mapT57 : mapT Tryd.prog 57 = none := by kernel_rfl
@[go_sem] theorem sizeT57 : sizeT Tryd.prog 57 = 1 := by kernel_rfl
@[go_sem] theorem bytesT57 : bytesT Tryd.prog 57 = 8 := by kernel_rfl
@[go_sem] theorem zeroT57 : zeroT Tryd.prog 57 = some [D.nfun] := by kernel_rfl
@[go_sem] theorem hasZero57 : hasZero Tryd.prog 57 = true := by kernel_rfl
@[go_sem] theorem isAggT58 : isAggT Tryd.prog 58 = false := by kernel_rfl
@[go_sem] theorem isOneT58 : isOneT Tryd.prog 58 = true := by kernel_rfl
@[go_sem] theorem elemT58 : elemT Tryd.prog 58 = none := by kernel_rfl
@[go_sem] theorem arrT58 : arrT Tryd.prog 58 = none := by kernel_rfl
@[go_sem] theorem intT58 : intT Tryd.prog 58 = none := by kernel_rfl
@[go_sem] theorem strT58 : strT Tryd.prog 58 = false := by kernel_rfl
@[go_sem] theorem boolT58 : boolT Tryd.prog 58 = false := by kernel_rfl
@[go_sem] theorem mapT58 : mapT Tryd.prog 58 = none := by kernel_rfl
@[go_sem] theorem sizeT58 : sizeT Tryd.prog 58 = 1 := by kernel_rfl
@[go_sem] theorem bytesT58 : bytesT Tryd.prog 58 = 8 := by kernel_rfl
@[go_sem] theorem zeroT58 : zeroT Tryd.prog 58 = some [D.nfun] := by kernel_rfl
@[go_sem] theorem hasZero58 : hasZero Tryd.prog 58 = true := by kernel_rfl
@[go_sem] theorem isAggT59 : isAggT Tryd.prog 59 = false := by kernel_rfl
@[go_sem] theorem isOneT59 : isOneT Tryd.prog 59 = true := by kernel_rfl
@[go_sem] theorem elemT59 : elemT Tryd.prog 59 = none := by kernel_rfl
@[go_sem] theorem arrT59 : arrT Tryd.prog 59 = none := by kernel_rfl
@[go_sem] theorem intT59 : intT Tryd.prog 59 = none := by kernel_rfl
@[go_sem] theorem strT59 : strT Tryd.prog 59 = false := by kernel_rfl
@[go_sem] theorem boolT59 : boolT Tryd.prog 59 = false := by kernel_rfl
@[go_sem] theorem mapT59 : mapT Tryd.prog 59 = none := by kernel_rfl
@[go_sem] theorem sizeT59 : sizeT Tryd.prog 59 = 1 := by kernel_rfl
@[go_sem] theorem bytesT59 : bytesT Tryd.prog 59 = 8 := by kernel_rfl
@[go_sem] theorem zeroT59 : zeroT Tryd.prog 59 = some [D.nfun] := by kernel_rfl
@[go_sem] theorem hasZero59 : hasZero Tryd.prog 59 = true := by kernel_rfl
@[go_sem] theorem isAggT60 : isAggT Tryd.prog 60 = false := by kernel_rfl
@[go_sem] theorem isOneT60 : isOneT Tryd.prog 60 = true := by kernel_rfl
@[go_sem] theorem elemT60 : elemT Tryd.prog 60 = none := by kernel_rfl
@[go_sem] theorem arrT60 : arrT Tryd.prog 60 = none := by kernel_rfl
@[go_sem] theorem intT60 : intT Tryd.prog 60 = none := by kernel_rfl
@[go_sem] theorem strT60 : strT Tryd.prog 60 = false := by kernel_rfl
@[go_sem] theorem boolT60 : boolT Tryd.prog 60 = false := by kernel_rfl
@[go_sem] theorem mapT60 : mapT Tryd.prog 60 = none := by kernel_rfl
@[go_sem] theorem sizeT60 : sizeT Tryd.prog 60 = 1 := by kernel_rfl
@[go_sem] theorem bytesT60 : bytesT Tryd.prog 60 = 8 := by kernel_rfl
@[go_sem] theorem zeroT60 : zeroT Tryd.prog 60 = some [D.nfun] := by kernel_rfl
@[go_sem] theorem hasZero60 : hasZero Tryd.prog 60 = true := by kernel_rfl
@[go_sem] theorem isAggT61 : isAggT Tryd.prog 61 = false := by kernel_rfl
@[go_sem] theorem isOneT61 : isOneT Tryd.prog 61 = true := by kernel_rfl
@[go_sem] theorem elemT61 : elemT Tryd.prog 61 = none := by kernel_rfl
@[go_sem] theorem arrT61 : arrT Tryd.prog 61 = none := by kernel_rfl
@[go_sem] theorem intT61 : intT Tryd.prog 61 = none := by kernel_rfl
@[go_sem] theorem strT61 : strT Tryd.prog 61 = false := by kernel_rfl
@[go_sem] theorem boolT61 : boolT Tryd.prog 61 = false := by kernel_rfl
@[go_sem] theorem mapT61 : mapT Tryd.prog 61 = none := by kernel_rfl
@[go_sem] theorem sizeT61 : sizeT Tryd.prog 61 = 1 := by kernel_rfl
@[go_sem] theorem bytesT61 : bytesT Tryd.prog 61 = 8 := by kernel_rfl
@[go_sem] theorem zeroT61 : zeroT Tryd.prog 61 = some [D.nfun] := by kernel_rfl
@[go_sem] theorem hasZero61 : hasZero Tryd.prog 61 = true := by kernel_rfl
@[go_sem] theorem isAggT62 : isAggT Tryd.prog 62 = false := by kernel_rfl
@[go_sem] theorem isOneT62 : isOneT Tryd.prog 62 = true := by kernel_rfl
@[go_sem] theorem elemT62 : elemT Tryd.prog 62 = none := by kernel_rfl
@[go_sem] theorem arrT62 : arrT Tryd.prog 62 = none := by kernel_rfl
@[go_sem] theorem intT62 : intT Tryd.prog 62 = none := by kernel_rfl
@[go_sem] theorem strT62 : strT Tryd.prog 62 = false := by kernel_rfl
@[go_sem] theorem boolT62 : boolT Tryd.prog 62 = false := by kernel_rfl
@[go_sem] theorem mapT62 : mapT Tryd.prog 62 = none := by kernel_rfl
@[go_sem] theorem sizeT62 : sizeT Tryd.prog 62 = 1 := by kernel_rfl
@[go_sem] theorem bytesT62 : bytesT Tryd.prog 62 = 8 := by kernel_rfl
@[go_sem] theorem zeroT62 : zeroT Tryd.prog 62 = some [D.nfun] := by kernel_rfl
@[go_sem] theorem hasZero62 : hasZero Tryd.prog 62 = true := by kernel_rfl
@[go_sem] theorem isAggT63 : isAggT Tryd.prog 63 = false := by kernel_rfl
@[go_sem] theorem isOneT63 : isOneT Tryd.prog 63 = true := by kernel_rfl
@[go_sem] theorem elemT63 : elemT Tryd.prog 63 = none := by kernel_rfl
@[go_sem] theorem arrT63 : arrT Tryd.prog 63 = none := by kernel_rfl
@[go_sem] theorem intT63 : intT Tryd.prog 63 = none := by kernel_rfl
@[go_sem] theorem strT63 : strT Tryd.prog 63 = false := by kernel_rfl
@[go_sem] theorem boolT63 : boolT Tryd.prog 63 = false := by kernel_rfl
@[go_sem] theorem mapT63 : mapT Tryd.prog 63 = none := by kernel_rfl
@[go_sem] theorem sizeT63 : sizeT Tryd.prog 63 = 1 := by kernel_rfl
@[go_sem] theorem bytesT63 : bytesT Tryd.prog 63 = 8 := by kernel_rfl
@[go_sem] theorem zeroT63 : zeroT Tryd.prog 63 = some [D.nfun] := by kernel_rfl
@[go_sem] theorem hasZero63 : hasZero Tryd.prog 63 = true := by kernel_rfl
@[go_sem] theorem isAggT64 : isAggT Tryd.prog 64 = false := by kernel_rfl
@[go_sem] theorem isOneT64 : isOneT Tryd.prog 64 = true := by kernel_rfl
@[go_sem] theorem elemT64 : elemT Tryd.prog 64 = none := by kernel_rfl
@[go_sem] theorem arrT64 : arrT Tryd.prog 64 = none := by kernel_rfl
@[go_sem] theorem intT64 : intT Tryd.prog 64 = none := by kernel_rfl
@[go_sem] theorem strT64 : strT Tryd.prog 64 = false := by kernel_rfl
@[go_sem] theorem boolT64 : boolT Tryd.prog 64 = false := by kernel_rfl
@[go_sem] theorem mapT64 : mapT Tryd.prog 64 = none := by kernel_rfl
@[go_sem] theorem sizeT64 : sizeT Tryd.prog 64 = 1 := by kernel_rfl
@[go_sem] theorem bytesT64 : bytesT Tryd.prog 64 = 8 := by kernel_rfl
@[go_sem] theorem zeroT64 : zeroT Tryd.prog 64 = some [D.nfun] := by kernel_rfl
@[go_sem] theorem hasZero64 : hasZero Tryd.prog 64 = true := by kernel_rfl
@[go_sem] theorem isAggT65 : isAggT Tryd.prog 65 = false := by kernel_rfl
@[go_sem] theorem isOneT65 : isOneT Tryd.prog 65 = true := by kernel_rfl
@[go_sem] theorem elemT65 : elemT Tryd.prog 65 = none := by kernel_rfl
@[go_sem] theorem arrT65 : arrT Tryd.prog 65 = none := by kernel_rfl
@[go_sem] theorem intT65 : intT Tryd.prog 65 = none := by kernel_rfl
@[go_sem] theorem strT65 : strT Tryd.prog 65 = false := by kernel_rfl
@[go_sem] theorem boolT65 : boolT Tryd.prog 65 = false := by kernel_rfl
@[go_sem] theorem mapT65 : mapT Tryd.prog 65 = none := by kernel_rfl
@[go_sem] theorem sizeT65 : sizeT Tryd.prog 65 = 1 := by kernel_rfl
@[go_sem] theorem bytesT65 : bytesT Tryd.prog 65 = 8 := by kernel_rfl
@[go_sem] theorem zeroT65 : zeroT Tryd.prog 65 = some [D.nfun] := by kernel_rfl
@[go_sem] theorem hasZero65 : hasZero Tryd.prog 65 = true := by kernel_rfl
@[go_sem] theorem isAggT66 : isAggT Tryd.prog 66 = false := by kernel_rfl
@[go_sem] theorem isOneT66 : isOneT Tryd.prog 66 = true := by kernel_rfl
@[go_sem] theorem elemT66 : elemT Tryd.prog 66 = some 3 := by kernel_rfl
@[go_sem] theorem arrT66 : arrT Tryd.prog 66 = none := by kernel_rfl
@[go_sem] theorem intT66 : intT Tryd.prog 66 = none := by kernel_rfl
@[go_sem] theorem strT66 : strT Tryd.prog 66 = false := by kernel_rfl
@[go_sem] theorem boolT66 : boolT Tryd.prog 66 = false := by kernel_rfl
@[go_sem] theorem mapT66 : mapT Tryd.prog 66 = none := by kernel_rfl
@[go_sem] theorem sizeT66 : sizeT Tryd.prog 66 = 1 := by kernel_rfl
@[go_sem] theorem bytesT66 : bytesT Tryd.prog 66 = 24 := by kernel_rfl
@[go_sem] theorem zeroT66 : zeroT Tryd.prog 66 = some [D.nil] := by kernel_rfl
@[go_sem] theorem hasZero66 : hasZero Tryd.prog 66 = true := by kernel_rfl
@[go_sem] theorem isAggT67 : isAggT Tryd.prog 67 = true := by kernel_rfl
@[go_sem] theorem isOneT67 : isOneT Tryd.prog 67 = false := by kernel_rfl
@[go_sem] theorem elemT67 : elemT Tryd.prog 67 = none := by kernel_rfl
@[go_sem] theorem arrT67 : arrT Tryd.prog 67 = some (8, 66) := by kernel_rfl
@[go_sem] theorem intT67 : intT Tryd.prog 67 = none := by kernel_rfl
@[go_sem] theorem strT67 : strT Tryd.prog 67 = false := by kernel_rfl
@[go_sem] theorem boolT67 : boolT Tryd.prog 67 = false := by kernel_rfl
@[go_sem] theorem mapT67 : mapT Tryd.prog 67 = none := by kernel_rfl
@[go_sem] theorem sizeT67 : sizeT Tryd.prog 67 = 8 := by kernel_rfl
@[go_sem] theorem bytesT67 : bytesT Tryd.prog 67 = 192 := by kernel_rfl
@[go_sem] theorem zeroT67 : zeroT Tryd.prog 67 = some [D.nil, D.nil, D.nil, D.nil, D.nil, D.nil, D.nil, D.nil] := by kernel_rfl
@[go_sem] theorem hasZero67 : hasZero Tryd.prog 67 = true := by kernel_rfl
@[go_sem] theorem under67 : Tryd.prog.underlying 67 = some (.array 8 66) := by kernel_rfl
@[go_sem] theorem isAggT68 : isAggT Tryd.prog 68 = true := by kernel_rfl
@[go_sem] theorem isOneT68 : isOneT Tryd.prog 68 = false := by kernel_rfl
@[go_sem] theorem elemT68 : elemT Tryd.prog 68 = none := by kernel_rfl
@[go_sem] theorem arrT68 : arrT Tryd.prog 68 = some (8, 9) := by kernel_rfl
@[go_sem] theorem intT68 : intT Tryd.prog 68 = none := by kernel_rfl
@[go_sem] theorem strT68 : strT Tryd.prog 68 = false := by kernel_rfl
@[go_sem] theorem boolT68 : boolT Tryd.prog 68 = false := by kernel_rfl
@[go_sem] theorem mapT68 : mapT Tryd.prog 68 = none := by kernel_rfl
@[go_sem] theorem sizeT68 : sizeT Tryd.prog 68 = 8 := by kernel_rfl
@[go_sem] theorem bytesT68 : bytesT Tryd.prog 68 = 128 := by kernel_rfl
@[go_sem] theorem zeroT68 : zeroT Tryd.prog 68 = some [D.str ByteArray.empty, D.str ByteArray.empty, D.str ByteArray.empty, D.str ByteArray.empty, D.str ByteArray.empty, D.str ByteArray.empty, D.str ByteArray.empty, D.str ByteArray.empty] := by kernel_rfl
@[go_sem] theorem hasZero68 : hasZero Tryd.prog 68 = true := by kernel_rfl
@[go_sem] theorem under68 : Tryd.prog.underlying 68 = some (.array 8 9) := by kernel_rfl
@[go_sem] theorem isAggT69 : isAggT Tryd.prog 69 = false := by kernel_rfl
@[go_sem] theorem isOneT69 : isOneT Tryd.prog 69 = true := by kernel_rfl
@[go_sem] theorem elemT69 : elemT Tryd.prog 69 = some 9 := by kernel_rfl
@[go_sem] theorem arrT69 : arrT Tryd.prog 69 = none := by kernel_rfl
@[go_sem] theorem intT69 : intT Tryd.prog 69 = none := by kernel_rfl
@[go_sem] theorem strT69 : strT Tryd.prog 69 = false := by kernel_rfl
@[go_sem] theorem boolT69 : boolT Tryd.prog 69 = false := by kernel_rfl
@[go_sem] theorem mapT69 : mapT Tryd.prog 69 = none := by kernel_rfl
@[go_sem] theorem sizeT69 : sizeT Tryd.prog 69 = 1 := by kernel_rfl
@[go_sem] theorem bytesT69 : bytesT Tryd.prog 69 = 24 := by kernel_rfl
@[go_sem] theorem zeroT69 : zeroT Tryd.prog 69 = some [D.nil] := by kernel_rfl
@[go_sem] theorem hasZero69 : hasZero Tryd.prog 69 = true := by kernel_rfl
@[go_sem] theorem isAggT70 : isAggT Tryd.prog 70 = false := by kernel_rfl
@[go_sem] theorem isOneT70 : isOneT Tryd.prog 70 = true := by kernel_rfl
@[go_sem] theorem elemT70 : elemT Tryd.prog 70 = none := by kernel_rfl
@[go_sem] theorem arrT70 : arrT Tryd.prog 70 = none := by kernel_rfl
@[go_sem] theorem intT70 : intT Tryd.prog 70 = none := by kernel_rfl
@[go_sem] theorem strT70 : strT Tryd.prog 70 = false := by kernel_rfl
@[go_sem] theorem boolT70 : boolT Tryd.prog 70 = false := by kernel_rfl
@[go_sem] theorem mapT70 : mapT Tryd.prog 70 = none := by kernel_rfl
@[go_sem] theorem sizeT70 : sizeT Tryd.prog 70 = 1 := by kernel_rfl
@[go_sem] theorem bytesT70 : bytesT Tryd.prog 70 = 8 := by kernel_rfl
@[go_sem] theorem zeroT70 : zeroT Tryd.prog 70 = some [D.nfun] := by kernel_rfl
@[go_sem] theorem hasZero70 : hasZero Tryd.prog 70 = true := by kernel_rfl
@[go_sem] theorem isAggT71 : isAggT Tryd.prog 71 = false := by kernel_rfl
@[go_sem] theorem isOneT71 : isOneT Tryd.prog 71 = true := by kernel_rfl
@[go_sem] theorem elemT71 : elemT Tryd.prog 71 = none := by kernel_rfl
@[go_sem] theorem arrT71 : arrT Tryd.prog 71 = none := by kernel_rfl
@[go_sem] theorem intT71 : intT Tryd.prog 71 = none := by kernel_rfl
@[go_sem] theorem strT71 : strT Tryd.prog 71 = false := by kernel_rfl
@[go_sem] theorem boolT71 : boolT Tryd.prog 71 = false := by kernel_rfl
@[go_sem] theorem mapT71 : mapT Tryd.prog 71 = none := by kernel_rfl
@[go_sem] theorem sizeT71 : sizeT Tryd.prog 71 = 1 := by kernel_rfl
@[go_sem] theorem bytesT71 : bytesT Tryd.prog 71 = 8 := by kernel_rfl
@[go_sem] theorem zeroT71 : zeroT Tryd.prog 71 = some [D.nfun] := by kernel_rfl
@[go_sem] theorem hasZero71 : hasZero Tryd.prog 71 = true := by kernel_rfl
@[go_sem] theorem isAggT72 : isAggT Tryd.prog 72 = false := by kernel_rfl
@[go_sem] theorem isOneT72 : isOneT Tryd.prog 72 = true := by kernel_rfl
@[go_sem] theorem elemT72 : elemT Tryd.prog 72 = none := by kernel_rfl
@[go_sem] theorem arrT72 : arrT Tryd.prog 72 = none := by kernel_rfl
@[go_sem] theorem intT72 : intT Tryd.prog 72 = none := by kernel_rfl
@[go_sem] theorem strT72 : strT Tryd.prog 72 = false := by kernel_rfl
@[go_sem] theorem boolT72 : boolT Tryd.prog 72 = false := by kernel_rfl
@[go_sem] theorem mapT72 : mapT Tryd.prog 72 = none := by kernel_rfl
@[go_sem] theorem sizeT72 : sizeT Tryd.prog 72 = 1 := by kernel_rfl
@[go_sem] theorem bytesT72 : bytesT Tryd.prog 72 = 8 := by kernel_rfl
@[go_sem] theorem zeroT72 : zeroT Tryd.prog 72 = some [D.nfun] := by kernel_rfl
@[go_sem] theorem hasZero72 : hasZero Tryd.prog 72 = true := by kernel_rfl
@[go_sem] theorem isAggT73 : isAggT Tryd.prog 73 = false := by kernel_rfl
@[go_sem] theorem isOneT73 : isOneT Tryd.prog 73 = true := by kernel_rfl
@[go_sem] theorem elemT73 : elemT Tryd.prog 73 = some 24 := by kernel_rfl
@[go_sem] theorem arrT73 : arrT Tryd.prog 73 = none := by kernel_rfl
@[go_sem] theorem intT73 : intT Tryd.prog 73 = none := by kernel_rfl
@[go_sem] theorem strT73 : strT Tryd.prog 73 = false := by kernel_rfl
@[go_sem] theorem boolT73 : boolT Tryd.prog 73 = false := by kernel_rfl
@[go_sem] theorem mapT73 : mapT Tryd.prog 73 = none := by kernel_rfl
@[go_sem] theorem sizeT73 : sizeT Tryd.prog 73 = 1 := by kernel_rfl
@[go_sem] theorem bytesT73 : bytesT Tryd.prog 73 = 24 := by kernel_rfl
@[go_sem] theorem zeroT73 : zeroT Tryd.prog 73 = some [D.nil] := by kernel_rfl
@[go_sem] theorem hasZero73 : hasZero Tryd.prog 73 = true := by kernel_rfl
@[go_sem] theorem isAggT74 : isAggT Tryd.prog 74 = false := by kernel_rfl
@[go_sem] theorem isOneT74 : isOneT Tryd.prog 74 = true := by kernel_rfl
@[go_sem] theorem elemT74 : elemT Tryd.prog 74 = none := by kernel_rfl
@[go_sem] theorem arrT74 : arrT Tryd.prog 74 = none := by kernel_rfl
@[go_sem] theorem intT74 : intT Tryd.prog 74 = none := by kernel_rfl
@[go_sem] theorem strT74 : strT Tryd.prog 74 = false := by kernel_rfl
@[go_sem] theorem boolT74 : boolT Tryd.prog 74 = false := by kernel_rfl
@[go_sem] theorem mapT74 : mapT Tryd.prog 74 = none := by kernel_rfl
@[go_sem] theorem sizeT74 : sizeT Tryd.prog 74 = 1 := by kernel_rfl
@[go_sem] theorem bytesT74 : bytesT Tryd.prog 74 = 8 := by kernel_rfl
@[go_sem] theorem zeroT74 : zeroT Tryd.prog 74 = some [D.nfun] := by kernel_rfl
@[go_sem] theorem hasZero74 : hasZero Tryd.prog 74 = true := by kernel_rfl
@[go_sem] theorem isAggT75 : isAggT Tryd.prog 75 = false := by kernel_rfl
@[go_sem] theorem isOneT75 : isOneT Tryd.prog 75 = true := by kernel_rfl
@[go_sem] theorem elemT75 : elemT Tryd.prog 75 = none := by kernel_rfl
@[go_sem] theorem arrT75 : arrT Tryd.prog 75 = none := by kernel_rfl
@[go_sem] theorem intT75 : intT Tryd.prog 75 = none := by kernel_rfl
@[go_sem] theorem strT75 : strT Tryd.prog 75 = false := by kernel_rfl
@[go_sem] theorem boolT75 : boolT Tryd.prog 75 = false := by kernel_rfl
@[go_sem] theorem mapT75 : mapT Tryd.prog 75 = none := by kernel_rfl
@[go_sem] theorem sizeT75 : sizeT Tryd.prog 75 = 1 := by kernel_rfl
@[go_sem] theorem bytesT75 : bytesT Tryd.prog 75 = 8 := by kernel_rfl
@[go_sem] theorem zeroT75 : zeroT Tryd.prog 75 = some [D.nfun] := by kernel_rfl
@[go_sem] theorem hasZero75 : hasZero Tryd.prog 75 = true := by kernel_rfl
@[go_sem] theorem isAggT76 : isAggT Tryd.prog 76 = false := by kernel_rfl
@[go_sem] theorem isOneT76 : isOneT Tryd.prog 76 = true := by kernel_rfl
@[go_sem] theorem elemT76 : elemT Tryd.prog 76 = none := by kernel_rfl
@[go_sem] theorem arrT76 : arrT Tryd.prog 76 = none := by kernel_rfl
@[go_sem] theorem intT76 : intT Tryd.prog 76 = none := by kernel_rfl
@[go_sem] theorem strT76 : strT Tryd.prog 76 = false := by kernel_rfl
@[go_sem] theorem boolT76 : boolT Tryd.prog 76 = false := by kernel_rfl
@[go_sem] theorem mapT76 : mapT Tryd.prog 76 = none := by kernel_rfl
@[go_sem] theorem sizeT76 : sizeT Tryd.prog 76 = 1 := by kernel_rfl
@[go_sem] theorem bytesT76 : bytesT Tryd.prog 76 = 8 := by kernel_rfl
@[go_sem] theorem zeroT76 : zeroT Tryd.prog 76 = some [D.nfun] := by kernel_rfl
@[go_sem] theorem hasZero76 : hasZero Tryd.prog 76 = true := by kernel_rfl
@[go_sem] theorem isAggT77 : isAggT Tryd.prog 77 = false := by kernel_rfl
@[go_sem] theorem isOneT77 : isOneT Tryd.prog 77 = true := by kernel_rfl
@[go_sem] theorem elemT77 : elemT Tryd.prog 77 = none := by kernel_rfl
@[go_sem] theorem arrT77 : arrT Tryd.prog 77 = none := by kernel_rfl
@[go_sem] theorem intT77 : intT Tryd.prog 77 = none := by kernel_rfl
@[go_sem] theorem strT77 : strT Tryd.prog 77 = false := by kernel_rfl
@[go_sem] theorem boolT77 : boolT Tryd.prog 77 = false := by kernel_rfl
@[go_sem] theorem mapT77 : mapT Tryd.prog 77 = none := by kernel_rfl
@[go_sem] theorem sizeT77 : sizeT Tryd.prog 77 = 1 := by kernel_rfl
@[go_sem] theorem bytesT77 : bytesT Tryd.prog 77 = 8 := by kernel_rfl
@[go_sem] theorem zeroT77 : zeroT Tryd.prog 77 = some [D.nfun] := by kernel_rfl
@[go_sem] theorem hasZero77 : hasZero Tryd.prog 77 = true := by kernel_rfl
@[go_sem] theorem isAggT78 : isAggT Tryd.prog 78 = false := by kernel_rfl
@[go_sem] theorem isOneT78 : isOneT Tryd.prog 78 = true := by kernel_rfl
@[go_sem] theorem elemT78 : elemT Tryd.prog 78 = none := by kernel_rfl
@[go_sem] theorem arrT78 : arrT Tryd.prog 78 = none := by kernel_rfl
@[go_sem] theorem intT78 : intT Tryd.prog 78 = none := by kernel_rfl
@[go_sem] theorem strT78 : strT Tryd.prog 78 = false := by kernel_rfl
@[go_sem] theorem boolT78 : boolT Tryd.prog 78 = false := by kernel_rfl
@[go_sem] theorem mapT78 : mapT Tryd.prog 78 = none := by kernel_rfl
@[go_sem] theorem sizeT78 : sizeT Tryd.prog 78 = 1 := by kernel_rfl
@[go_sem] theorem bytesT78 : bytesT Tryd.prog 78 = 8 := by kernel_rfl
@[go_sem] theorem zeroT78 : zeroT Tryd.prog 78 = some [D.nfun] := by kernel_rfl
@[go_sem] theorem hasZero78 : hasZero Tryd.prog 78 = true := by kernel_rfl
@[go_sem] theorem isAggT79 : isAggT Tryd.prog 79 = false := by kernel_rfl
@[go_sem] theorem isOneT79 : isOneT Tryd.prog 79 = true := by kernel_rfl
@[go_sem] theorem elemT79 : elemT Tryd.prog 79 = none := by kernel_rfl
@[go_sem] theorem arrT79 : arrT Tryd.prog 79 = none := by kernel_rfl
@[go_sem] theorem intT79 : intT Tryd.prog 79 = none := by kernel_rfl
@[go_sem] theorem strT79 : strT Tryd.prog 79 = false := by kernel_rfl
@[go_sem] theorem boolT79 : boolT Tryd.prog 79 = false := by kernel_rfl
@[go_sem] theorem mapT79 : mapT Tryd.prog 79 = none := by kernel_rfl
@[go_sem] theorem sizeT79 : sizeT Tryd.prog 79 = 1 := by kernel_rfl
@[go_sem] theorem bytesT79 : bytesT Tryd.prog 79 = 8 := by kernel_rfl
@[go_sem] theorem zeroT79 : zeroT Tryd.prog 79 = some [D.nfun] := by kernel_rfl
@[go_sem] theorem hasZero79 : hasZero Tryd.prog 79 = true := by kernel_rfl
@[go_sem] theorem isAggT80 : isAggT Tryd.prog 80 = false := by kernel_rfl
@[go_sem] theorem isOneT80 : isOneT Tryd.prog 80 = true := by kernel_rfl
@[go_sem] theorem elemT80 : elemT Tryd.prog 80 = none := by kernel_rfl
@[go_sem] theorem arrT80 : arrT Tryd.prog 80 = none := by kernel_rfl
@[go_sem] theorem intT80 : intT Tryd.prog 80 = none := by kernel_rfl
@[go_sem] theorem strT80 : strT Tryd.prog 80 = false := by kernel_rfl
@[go_sem] theorem boolT80 : boolT Tryd.prog 80 = false := by kernel_rfl
@[go_sem] theorem mapT80 : mapT Tryd.prog 80 = none := by kernel_rfl
@[go_sem] theorem sizeT80 : sizeT Tryd.prog 80 = 1 := by kernel_rfl
@[go_sem] theorem bytesT80 : bytesT Tryd.prog 80 = 8 := by kernel_rfl
@[go_sem] theorem zeroT80 : zeroT Tryd.prog 80 = some [D.nfun] := by kernel_rfl
@[go_sem] theorem hasZero80 : hasZero Tryd.prog 80 = true := by kernel_rfl
@[go_sem] theorem isAggT81 : isAggT Tryd.prog 81 = true := by kernel_rfl
@[go_sem] theorem isOneT81 : isOneT Tryd.prog 81 = false := by kernel_rfl
@[go_sem] theorem elemT81 : elemT Tryd.prog 81 = none := by kernel_rfl
@[go_sem] theorem arrT81 : arrT Tryd.prog 81 = none := by kernel_rfl
@[go_sem] theorem intT81 : intT Tryd.prog 81 = none := by kernel_rfl
@[go_sem] theorem strT81 : strT Tryd.prog 81 = false := by kernel_rfl
@[go_sem] theorem boolT81 : boolT Tryd.prog 81 = false := by kernel_rfl
@[go_sem] theorem mapT81 : mapT Tryd.prog 81 = none := by kernel_rfl
@[go_sem] theorem sizeT81 : sizeT Tryd.prog 81 = 2 := by kernel_rfl
@[go_sem] theorem bytesT81 : bytesT Tryd.prog 81 = 16 := by kernel_rfl
@[go_sem] theorem fieldsOK81 : fieldsOK Tryd.prog 81 = true := by kernel_rfl
@[go_sem] theorem fieldT81_0 : fieldT Tryd.prog 81 0 = some (0, 28) := by kernel_rfl
@[go_sem] theorem fieldT81_1 : fieldT Tryd.prog 81 1 = some (1, 52) := by kernel_rfl
@[go_sem] theorem zeroT81 : zeroT Tryd.prog 81 = some [D.nfun, D.int .i64 0] := by kernel_rfl
@[go_sem] theorem hasZero81 : hasZero Tryd.prog 81 = true := by kernel_rfl
@[go_sem] theorem isAggT82 : isAggT Tryd.prog 82 = true := by kernel_rfl
@[go_sem] theorem isOneT82 : isOneT Tryd.prog 82 = false := by kernel_rfl
@[go_sem] theorem elemT82 : elemT Tryd.prog 82 = none := by kernel_rfl
@[go_sem] theorem arrT82 : arrT Tryd.prog 82 = none := by kernel_rfl
@[go_sem] theorem intT82 : intT Tryd.prog 82 = none := by kernel_rfl
@[go_sem] theorem strT82 : strT Tryd.prog 82 = false := by kernel_rfl
@[go_sem] theorem boolT82 : boolT Tryd.prog 82 = false := by kernel_rfl
@[go_sem] theorem mapT82 : mapT Tryd.prog 82 = none := by kernel_rfl
@[go_sem] theorem sizeT82 : sizeT Tryd.prog 82 = 2 := by kernel_rfl
@[go_sem] theorem bytesT82 : bytesT Tryd.prog 82 = 16 := by kernel_rfl
@[go_sem] theorem fieldsOK82 : fieldsOK Tryd.prog 82 = true := by kernel_rfl
@[go_sem] theorem fieldT82_0 : fieldT Tryd.prog 82 0 = some (0, 28) := by kernel_rfl
@[go_sem] theorem fieldT82_1 : fieldT Tryd.prog 82 1 = some (1, 52) := by kernel_rfl
@[go_sem] theorem zeroT82 : zeroT Tryd.prog 82 = some [D.nfun, D.int .i64 0] := by kernel_rfl
@[go_sem] theorem hasZero82 : hasZero Tryd.prog 82 = true := by kernel_rfl
@[go_sem] theorem isAggT83 : isAggT Tryd.prog 83 = false := by kernel_rfl
@[go_sem] theorem isOneT83 : isOneT Tryd.prog 83 = true := by kernel_rfl
@[go_sem] theorem elemT83 : elemT Tryd.prog 83 = none := by kernel_rfl
@[go_sem] theorem arrT83 : arrT Tryd.prog 83 = none := by kernel_rfl
@[go_sem] theorem intT83 : intT Tryd.prog 83 = none := by kernel_rfl
@[go_sem] theorem strT83 : strT Tryd.prog 83 = false := by kernel_rfl
@[go_sem] theorem boolT83 : boolT Tryd.prog 83 = false := by kernel_rfl
@[go_sem] theorem mapT83 : mapT Tryd.prog 83 = none := by kernel_rfl
@[go_sem] theorem sizeT83 : sizeT Tryd.prog 83 = 1 := by kernel_rfl
@[go_sem] theorem bytesT83 : bytesT Tryd.prog 83 = 8 := by kernel_rfl
@[go_sem] theorem zeroT83 : zeroT Tryd.prog 83 = some [D.nfun] := by kernel_rfl
@[go_sem] theorem hasZero83 : hasZero Tryd.prog 83 = true := by kernel_rfl
@[go_sem] theorem isAggT84 : isAggT Tryd.prog 84 = false := by kernel_rfl
@[go_sem] theorem isOneT84 : isOneT Tryd.prog 84 = true := by kernel_rfl
@[go_sem] theorem elemT84 : elemT Tryd.prog 84 = none := by kernel_rfl
@[go_sem] theorem arrT84 : arrT Tryd.prog 84 = none := by kernel_rfl
@[go_sem] theorem intT84 : intT Tryd.prog 84 = none := by kernel_rfl
@[go_sem] theorem strT84 : strT Tryd.prog 84 = false := by kernel_rfl
@[go_sem] theorem boolT84 : boolT Tryd.prog 84 = false := by kernel_rfl
@[go_sem] theorem mapT84 : mapT Tryd.prog 84 = none := by kernel_rfl
@[go_sem] theorem sizeT84 : sizeT Tryd.prog 84 = 1 := by kernel_rfl
@[go_sem] theorem bytesT84 : bytesT Tryd.prog 84 = 8 := by kernel_rfl
@[go_sem] theorem zeroT84 : zeroT Tryd.prog 84 = some [D.nfun] := by kernel_rfl
@[go_sem] theorem hasZero84 : hasZero Tryd.prog 84 = true := by kernel_rfl
@[go_sem] theorem isAggT85 : isAggT Tryd.prog 85 = false := by kernel_rfl
@[go_sem] theorem isOneT85 : isOneT Tryd.prog 85 = true := by kernel_rfl
@[go_sem] theorem elemT85 : elemT Tryd.prog 85 = none := by kernel_rfl
@[go_sem] theorem arrT85 : arrT Tryd.prog 85 = none := by kernel_rfl
@[go_sem] theorem intT85 : intT Tryd.prog 85 = none := by kernel_rfl
@[go_sem] theorem strT85 : strT Tryd.prog 85 = false := by kernel_rfl
@[go_sem] theorem boolT85 : boolT Tryd.prog 85 = false := by kernel_rfl
@[go_sem] theorem mapT85 : mapT Tryd.prog 85 = none := by kernel_rfl
@[go_sem] theorem sizeT85 : sizeT Tryd.prog 85 = 1 := by kernel_rfl
@[go_sem] theorem bytesT85 : bytesT Tryd.prog 85 = 8 := by kernel_rfl
@[go_sem] theorem zeroT85 : zeroT Tryd.prog 85 = some [D.nfun] := by kernel_rfl
@[go_sem] theorem hasZero85 : hasZero Tryd.prog 85 = true := by kernel_rfl
@[go_sem] theorem isAggT86 : isAggT Tryd.prog 86 = false := by kernel_rfl
@[go_sem] theorem isOneT86 : isOneT Tryd.prog 86 = true := by kernel_rfl
@[go_sem] theorem elemT86 : elemT Tryd.prog 86 = none := by kernel_rfl
@[go_sem] theorem arrT86 : arrT Tryd.prog 86 = none := by kernel_rfl
@[go_sem] theorem intT86 : intT Tryd.prog 86 = none := by kernel_rfl
@[go_sem] theorem strT86 : strT Tryd.prog 86 = false := by kernel_rfl
@[go_sem] theorem boolT86 : boolT Tryd.prog 86 = false := by kernel_rfl
@[go_sem] theorem mapT86 : mapT Tryd.prog 86 = none := by kernel_rfl
@[go_sem] theorem sizeT86 : sizeT Tryd.prog 86 = 1 := by kernel_rfl
@[go_sem] theorem bytesT86 : bytesT Tryd.prog 86 = 8 := by kernel_rfl
@[go_sem] theorem zeroT86 : zeroT Tryd.prog 86 = some [D.nfun] := by kernel_rfl
@[go_sem] theorem hasZero86 : hasZero Tryd.prog 86 = true := by kernel_rfl
@[go_sem] theorem isAggT87 : isAggT Tryd.prog 87 = false := by kernel_rfl
@[go_sem] theorem isOneT87 : isOneT Tryd.prog 87 = true := by kernel_rfl
@[go_sem] theorem elemT87 : elemT Tryd.prog 87 = none := by kernel_rfl
@[go_sem] theorem arrT87 : arrT Tryd.prog 87 = none := by kernel_rfl
@[go_sem] theorem intT87 : intT Tryd.prog 87 = none := by kernel_rfl
@[go_sem] theorem strT87 : strT Tryd.prog 87 = false := by kernel_rfl
@[go_sem] theorem boolT87 : boolT Tryd.prog 87 = false := by kernel_rfl
@[go_sem] theorem mapT87 : mapT Tryd.prog 87 = none := by kernel_rfl
@[go_sem] theorem sizeT87 : sizeT Tryd.prog 87 = 1 := by kernel_rfl
@[go_sem] theorem bytesT87 : bytesT Tryd.prog 87 = 8 := by kernel_rfl
@[go_sem] theorem zeroT87 : zeroT Tryd.prog 87 = some [D.nfun] := by kernel_rfl
@[go_sem] theorem hasZero87 : hasZero Tryd.prog 87 = true := by kernel_rfl
@[go_sem] theorem isAggT88 : isAggT Tryd.prog 88 = false := by kernel_rfl
@[go_sem] theorem isOneT88 : isOneT Tryd.prog 88 = true := by kernel_rfl
@[go_sem] theorem elemT88 : elemT Tryd.prog 88 = none := by kernel_rfl
@[go_sem] theorem arrT88 : arrT Tryd.prog 88 = none := by kernel_rfl
@[go_sem] theorem intT88 : intT Tryd.prog 88 = none := by kernel_rfl
@[go_sem] theorem strT88 : strT Tryd.prog 88 = false := by kernel_rfl
@[go_sem] theorem boolT88 : boolT Tryd.prog 88 = false := by kernel_rfl
@[go_sem] theorem mapT88 : mapT Tryd.prog 88 = some (90, 4) := by kernel_rfl
@[go_sem] theorem sizeT88 : sizeT Tryd.prog 88 = 1 := by kernel_rfl
@[go_sem] theorem bytesT88 : bytesT Tryd.prog 88 = 8 := by kernel_rfl
@[go_sem] theorem zeroT88 : zeroT Tryd.prog 88 = some [D.nmp] := by kernel_rfl
@[go_sem] theorem hasZero88 : hasZero Tryd.prog 88 = true := by kernel_rfl
@[go_sem] theorem isAggT89 : isAggT Tryd.prog 89 = true := by kernel_rfl
@[go_sem] theorem isOneT89 : isOneT Tryd.prog 89 = false := by kernel_rfl
@[go_sem] theorem elemT89 : elemT Tryd.prog 89 = none := by kernel_rfl
@[go_sem] theorem arrT89 : arrT Tryd.prog 89 = none := by kernel_rfl
@[go_sem] theorem intT89 : intT Tryd.prog 89 = none := by kernel_rfl
@[go_sem] theorem strT89 : strT Tryd.prog 89 = false := by kernel_rfl
@[go_sem] theorem boolT89 : boolT Tryd.prog 89 = false := by kernel_rfl
@[go_sem] theorem mapT89 : mapT Tryd.prog 89 = none := by kernel_rfl
@[go_sem] theorem sizeT89 : sizeT Tryd.prog 89 = 2 := by kernel_rfl
@[go_sem] theorem bytesT89 : bytesT Tryd.prog 89 = 24 := by kernel_rfl
@[go_sem] theorem fieldsOK89 : fieldsOK Tryd.prog 89 = true := by kernel_rfl
@[go_sem] theorem fieldT89_0 : fieldT Tryd.prog 89 0 = some (0, 3) := by kernel_rfl
@[go_sem] theorem fieldT89_1 : fieldT Tryd.prog 89 1 = some (1, 9) := by kernel_rfl
@[go_sem] theorem zeroT89 : zeroT Tryd.prog 89 = some [D.int .i64 0, D.str ByteArray.empty] := by kernel_rfl
@[go_sem] theorem hasZero89 : hasZero Tryd.prog 89 = true := by kernel_rfl
@[go_sem] theorem isAggT90 : isAggT Tryd.prog 90 = true := by kernel_rfl
@[go_sem] theorem isOneT90 : isOneT Tryd.prog 90 = false := by kernel_rfl
@[go_sem] theorem elemT90 : elemT Tryd.prog 90 = none := by kernel_rfl
@[go_sem] theorem arrT90 : arrT Tryd.prog 90 = none := by kernel_rfl
@[go_sem] theorem intT90 : intT Tryd.prog 90 = none := by kernel_rfl
@[go_sem] theorem strT90 : strT Tryd.prog 90 = false := by kernel_rfl
@[go_sem] theorem boolT90 : boolT Tryd.prog 90 = false := by kernel_rfl
@[go_sem] theorem mapT90 : mapT Tryd.prog 90 = none := by kernel_rfl
@[go_sem] theorem sizeT90 : sizeT Tryd.prog 90 = 2 := by kernel_rfl
@[go_sem] theorem bytesT90 : bytesT Tryd.prog 90 = 24 := by kernel_rfl
@[go_sem] theorem fieldsOK90 : fieldsOK Tryd.prog 90 = true := by kernel_rfl
@[go_sem] theorem fieldT90_0 : fieldT Tryd.prog 90 0 = some (0, 3) := by kernel_rfl
@[go_sem] theorem fieldT90_1 : fieldT Tryd.prog 90 1 = some (1, 9) := by kernel_rfl
@[go_sem] theorem zeroT90 : zeroT Tryd.prog 90 = some [D.int .i64 0, D.str ByteArray.empty] := by kernel_rfl
@[go_sem] theorem hasZero90 : hasZero Tryd.prog 90 = true := by kernel_rfl
@[go_sem] theorem isAggT91 : isAggT Tryd.prog 91 = false := by kernel_rfl
@[go_sem] theorem isOneT91 : isOneT Tryd.prog 91 = true := by kernel_rfl
@[go_sem] theorem elemT91 : elemT Tryd.prog 91 = none := by kernel_rfl
@[go_sem] theorem arrT91 : arrT Tryd.prog 91 = none := by kernel_rfl
@[go_sem] theorem intT91 : intT Tryd.prog 91 = none := by kernel_rfl
@[go_sem] theorem strT91 : strT Tryd.prog 91 = false := by kernel_rfl
@[go_sem] theorem boolT91 : boolT Tryd.prog 91 = false := by kernel_rfl
@[go_sem] theorem mapT91 : mapT Tryd.prog 91 = some (23, 4) := by kernel_rfl
@[go_sem] theorem sizeT91 : sizeT Tryd.prog 91 = 1 := by kernel_rfl
@[go_sem] theorem bytesT91 : bytesT Tryd.prog 91 = 8 := by kernel_rfl
@[go_sem] theorem zeroT91 : zeroT Tryd.prog 91 = some [D.nmp] := by kernel_rfl
@[go_sem] theorem hasZero91 : hasZero Tryd.prog 91 = true := by kernel_rfl
@[go_sem] theorem isAggT92 : isAggT Tryd.prog 92 = false := by kernel_rfl
@[go_sem] theorem isOneT92 : isOneT Tryd.prog 92 = true := by kernel_rfl
@[go_sem] theorem elemT92 : elemT Tryd.prog 92 = none := by kernel_rfl
@[go_sem] theorem arrT92 : arrT Tryd.prog 92 = none := by kernel_rfl
@[go_sem] theorem intT92 : intT Tryd.prog 92 = none := by kernel_rfl
@[go_sem] theorem strT92 : strT Tryd.prog 92 = false := by kernel_rfl
@[go_sem] theorem boolT92 : boolT Tryd.prog 92 = false := by kernel_rfl
@[go_sem] theorem mapT92 : mapT Tryd.prog 92 = none := by kernel_rfl
@[go_sem] theorem sizeT92 : sizeT Tryd.prog 92 = 1 := by kernel_rfl
@[go_sem] theorem bytesT92 : bytesT Tryd.prog 92 = 8 := by kernel_rfl
@[go_sem] theorem zeroT92 : zeroT Tryd.prog 92 = some [D.nfun] := by kernel_rfl
@[go_sem] theorem hasZero92 : hasZero Tryd.prog 92 = true := by kernel_rfl
@[go_sem] theorem isAggT93 : isAggT Tryd.prog 93 = false := by kernel_rfl
@[go_sem] theorem isOneT93 : isOneT Tryd.prog 93 = true := by kernel_rfl
@[go_sem] theorem elemT93 : elemT Tryd.prog 93 = none := by kernel_rfl
@[go_sem] theorem arrT93 : arrT Tryd.prog 93 = none := by kernel_rfl
@[go_sem] theorem intT93 : intT Tryd.prog 93 = none := by kernel_rfl
@[go_sem] theorem strT93 : strT Tryd.prog 93 = false := by kernel_rfl
@[go_sem] theorem boolT93 : boolT Tryd.prog 93 = false := by kernel_rfl
@[go_sem] theorem mapT93 : mapT Tryd.prog 93 = none := by kernel_rfl
@[go_sem] theorem sizeT93 : sizeT Tryd.prog 93 = 1 := by kernel_rfl
@[go_sem] theorem bytesT93 : bytesT Tryd.prog 93 = 8 := by kernel_rfl
@[go_sem] theorem zeroT93 : zeroT Tryd.prog 93 = some [D.nfun] := by kernel_rfl
@[go_sem] theorem hasZero93 : hasZero Tryd.prog 93 = true := by kernel_rfl
@[go_sem] theorem isAggT94 : isAggT Tryd.prog 94 = false := by kernel_rfl
@[go_sem] theorem isOneT94 : isOneT Tryd.prog 94 = true := by kernel_rfl
@[go_sem] theorem elemT94 : elemT Tryd.prog 94 = none := by kernel_rfl
@[go_sem] theorem arrT94 : arrT Tryd.prog 94 = none := by kernel_rfl
@[go_sem] theorem intT94 : intT Tryd.prog 94 = none := by kernel_rfl
@[go_sem] theorem strT94 : strT Tryd.prog 94 = false := by kernel_rfl
@[go_sem] theorem boolT94 : boolT Tryd.prog 94 = false := by kernel_rfl
@[go_sem] theorem mapT94 : mapT Tryd.prog 94 = none := by kernel_rfl
@[go_sem] theorem sizeT94 : sizeT Tryd.prog 94 = 1 := by kernel_rfl
@[go_sem] theorem bytesT94 : bytesT Tryd.prog 94 = 8 := by kernel_rfl
@[go_sem] theorem zeroT94 : zeroT Tryd.prog 94 = some [D.nfun] := by kernel_rfl
@[go_sem] theorem hasZero94 : hasZero Tryd.prog 94 = true := by kernel_rfl
@[go_sem] theorem isAggT95 : isAggT Tryd.prog 95 = false := by kernel_rfl
@[go_sem] theorem isOneT95 : isOneT Tryd.prog 95 = true := by kernel_rfl
@[go_sem] theorem elemT95 : elemT Tryd.prog 95 = none := by kernel_rfl
@[go_sem] theorem arrT95 : arrT Tryd.prog 95 = none := by kernel_rfl
@[go_sem] theorem intT95 : intT Tryd.prog 95 = none := by kernel_rfl
@[go_sem] theorem strT95 : strT Tryd.prog 95 = false := by kernel_rfl
@[go_sem] theorem boolT95 : boolT Tryd.prog 95 = false := by kernel_rfl
@[go_sem] theorem mapT95 : mapT Tryd.prog 95 = none := by kernel_rfl
@[go_sem] theorem sizeT95 : sizeT Tryd.prog 95 = 1 := by kernel_rfl
@[go_sem] theorem bytesT95 : bytesT Tryd.prog 95 = 8 := by kernel_rfl
@[go_sem] theorem zeroT95 : zeroT Tryd.prog 95 = some [D.nfun] := by kernel_rfl
@[go_sem] theorem hasZero95 : hasZero Tryd.prog 95 = true := by kernel_rfl
@[go_sem] theorem isAggT96 : isAggT Tryd.prog 96 = false := by kernel_rfl
@[go_sem] theorem isOneT96 : isOneT Tryd.prog 96 = true := by kernel_rfl
@[go_sem] theorem elemT96 : elemT Tryd.prog 96 = none := by kernel_rfl
@[go_sem] theorem arrT96 : arrT Tryd.prog 96 = none := by kernel_rfl
@[go_sem] theorem intT96 : intT Tryd.prog 96 = none := by kernel_rfl
@[go_sem] theorem strT96 : strT Tryd.prog 96 = false := by kernel_rfl
@[go_sem] theorem boolT96 : boolT Tryd.prog 96 = false := by kernel_rfl
@[go_sem] theorem mapT96 : mapT Tryd.prog 96 = none := by kernel_rfl
@[go_sem] theorem sizeT96 : sizeT Tryd.prog 96 = 1 := by kernel_rfl
@[go_sem] theorem bytesT96 : bytesT Tryd.prog 96 = 8 := by kernel_rfl
@[go_sem] theorem zeroT96 : zeroT Tryd.prog 96 = some [D.nfun] := by kernel_rfl
@[go_sem] theorem hasZero96 : hasZero Tryd.prog 96 = true := by kernel_rfl
@[go_sem] theorem isAggT97 : isAggT Tryd.prog 97 = false := by kernel_rfl
@[go_sem] theorem isOneT97 : isOneT Tryd.prog 97 = true := by kernel_rfl
@[go_sem] theorem elemT97 : elemT Tryd.prog 97 = none := by kernel_rfl
@[go_sem] theorem arrT97 : arrT Tryd.prog 97 = none := by kernel_rfl
@[go_sem] theorem intT97 : intT Tryd.prog 97 = none := by kernel_rfl
@[go_sem] theorem strT97 : strT Tryd.prog 97 = false := by kernel_rfl
@[go_sem] theorem boolT97 : boolT Tryd.prog 97 = false := by kernel_rfl
@[go_sem] theorem mapT97 : mapT Tryd.prog 97 = none := by kernel_rfl
@[go_sem] theorem sizeT97 : sizeT Tryd.prog 97 = 1 := by kernel_rfl
@[go_sem] theorem bytesT97 : bytesT Tryd.prog 97 = 8 := by kernel_rfl
@[go_sem] theorem zeroT97 : zeroT Tryd.prog 97 = some [D.nfun] := by kernel_rfl
@[go_sem] theorem hasZero97 : hasZero Tryd.prog 97 = true := by kernel_rfl
@[go_sem] theorem isAggT98 : isAggT Tryd.prog 98 = false := by kernel_rfl
@[go_sem] theorem isOneT98 : isOneT Tryd.prog 98 = true := by kernel_rfl
@[go_sem] theorem elemT98 : elemT Tryd.prog 98 = none := by kernel_rfl
@[go_sem] theorem arrT98 : arrT Tryd.prog 98 = none := by kernel_rfl
@[go_sem] theorem intT98 : intT Tryd.prog 98 = none := by kernel_rfl
@[go_sem] theorem strT98 : strT Tryd.prog 98 = false := by kernel_rfl
@[go_sem] theorem boolT98 : boolT Tryd.prog 98 = false := by kernel_rfl
@[go_sem] theorem mapT98 : mapT Tryd.prog 98 = none := by kernel_rfl
@[go_sem] theorem sizeT98 : sizeT Tryd.prog 98 = 1 := by kernel_rfl
@[go_sem] theorem bytesT98 : bytesT Tryd.prog 98 = 8 := by kernel_rfl
@[go_sem] theorem zeroT98 : zeroT Tryd.prog 98 = some [D.nfun] := by kernel_rfl
@[go_sem] theorem hasZero98 : hasZero Tryd.prog 98 = true := by kernel_rfl
@[go_sem] theorem isAggT99 : isAggT Tryd.prog 99 = false := by kernel_rfl
@[go_sem] theorem isOneT99 : isOneT Tryd.prog 99 = true := by kernel_rfl
@[go_sem] theorem elemT99 : elemT Tryd.prog 99 = some 82 := by kernel_rfl
@[go_sem] theorem arrT99 : arrT Tryd.prog 99 = none := by kernel_rfl
@[go_sem] theorem intT99 : intT Tryd.prog 99 = none := by kernel_rfl
@[go_sem] theorem strT99 : strT Tryd.prog 99 = false := by kernel_rfl
@[go_sem] theorem boolT99 : boolT Tryd.prog 99 = false := by kernel_rfl
@[go_sem] theorem mapT99 : mapT Tryd.prog 99 = none := by kernel_rfl
@[go_sem] theorem sizeT99 : sizeT Tryd.prog 99 = 1 := by kernel_rfl
@[go_sem] theorem bytesT99 : bytesT Tryd.prog 99 = 24 := by kernel_rfl
@[go_sem] theorem zeroT99 : zeroT Tryd.prog 99 = some [D.nil] := by kernel_rfl
@[go_sem] theorem hasZero99 : hasZero Tryd.prog 99 = true := by kernel_rfl
@[go_sem] theorem isAggT100 : isAggT Tryd.prog 100 = false := by kernel_rfl
@[go_sem] theorem isOneT100 : isOneT Tryd.prog 100 = true := by kernel_rfl
@[go_sem] theorem elemT100 : elemT Tryd.prog 100 = none := by kernel_rfl
@[go_sem] theorem arrT100 : arrT Tryd.prog 100 = none := by kernel_rfl
@[go_sem] theorem intT100 : intT Tryd.prog 100 = none := by kernel_rfl
@[go_sem] theorem strT100 : strT Tryd.prog 100 = false := by kernel_rfl
@[go_sem] theorem boolT100 : boolT Tryd.prog 100 = false := by kernel_rfl
@[go_sem] theorem mapT100 : mapT Tryd.prog 100 = none := by kernel_rfl
@[go_sem] theorem sizeT100 : sizeT Tryd.prog 100 = 1 := by kernel_rfl
@[go_sem] theorem bytesT100 : bytesT Tryd.prog 100 = 8 := by kernel_rfl
@[go_sem] theorem zeroT100 : zeroT Tryd.prog 100 = some [D.nfun] := by kernel_rfl
@[go_sem] theorem hasZero100 : hasZero Tryd.prog 100 = true := by kernel_rfl
@[go_sem] theorem isAggT101 : isAggT Tryd.prog 101 = false := by kernel_rfl
@[go_sem] theorem isOneT101 : isOneT Tryd.prog 101 = true := by kernel_rfl
@[go_sem] theorem elemT101 : elemT Tryd.prog 101 = none := by kernel_rfl
@[go_sem] theorem arrT101 : arrT Tryd.prog 101 = none := by kernel_rfl
@[go_sem] theorem intT101 : intT Tryd.prog 101 = none := by kernel_rfl
@[go_sem] theorem strT101 : strT Tryd.prog 101 = false := by kernel_rfl
@[go_sem] theorem boolT101 : boolT Tryd.prog 101 = false := by kernel_rfl
@[go_sem] theorem mapT101 : mapT Tryd.prog 101 = none := by kernel_rfl
@[go_sem] theorem sizeT101 : sizeT Tryd.prog 101 = 1 := by kernel_rfl
@[go_sem] theorem bytesT101 : bytesT Tryd.prog 101 = 8 := by kernel_rfl
@[go_sem] theorem zeroT101 : zeroT Tryd.prog 101 = some [D.nfun] := by kernel_rfl
@[go_sem] theorem hasZero101 : hasZero Tryd.prog 101 = true := by kernel_rfl
@[go_sem] theorem isAggT103 : isAggT Tryd.prog 103 = false := by kernel_rfl
@[go_sem] theorem isOneT103 : isOneT Tryd.prog 103 = true := by kernel_rfl
@[go_sem] theorem elemT103 : elemT Tryd.prog 103 = none := by kernel_rfl
@[go_sem] theorem arrT103 : arrT Tryd.prog 103 = none := by kernel_rfl
@[go_sem] theorem intT103 : intT Tryd.prog 103 = none := by kernel_rfl
@[go_sem] theorem strT103 : strT Tryd.prog 103 = false := by kernel_rfl
@[go_sem] theorem boolT103 : boolT Tryd.prog 103 = false := by kernel_rfl
@[go_sem] theorem mapT103 : mapT Tryd.prog 103 = none := by kernel_rfl
@[go_sem] theorem sizeT103 : sizeT Tryd.prog 103 = 1 := by kernel_rfl
@[go_sem] theorem bytesT103 : bytesT Tryd.prog 103 = 8 := by kernel_rfl
@[go_sem] theorem zeroT103 : zeroT Tryd.prog 103 = some [D.nfun] := by kernel_rfl
@[go_sem] theorem hasZero103 : hasZero Tryd.prog 103 = true := by kernel_rfl
@[go_sem] theorem isAggT104 : isAggT Tryd.prog 104 = false := by kernel_rfl
@[go_sem] theorem isOneT104 : isOneT Tryd.prog 104 = true := by kernel_rfl
@[go_sem] theorem elemT104 : elemT Tryd.prog 104 = none := by kernel_rfl
@[go_sem] theorem arrT104 : arrT Tryd.prog 104 = none := by kernel_rfl
@[go_sem] theorem intT104 : intT Tryd.prog 104 = none := by kernel_rfl
@[go_sem] theorem strT104 : strT Tryd.prog 104 = false := by kernel_rfl
@[go_sem] theorem boolT104 : boolT Tryd.prog 104 = false := by kernel_rfl
@[go_sem] theorem mapT104 : mapT Tryd.prog 104 = none := by kernel_rfl
@[go_sem] theorem sizeT104 : sizeT Tryd.prog 104 = 1 := by kernel_rfl
@[go_sem] theorem bytesT104 : bytesT Tryd.prog 104 = 8 := by kernel_rfl
@[go_sem] theorem zeroT104 : zeroT Tryd.prog 104 = some [D.nfun] := by kernel_rfl
@[go_sem] theorem hasZero104 : hasZero Tryd.prog 104 = true := by kernel_rfl
@[go_sem] theorem isAggT105 : isAggT Tryd.prog 105 = false := by kernel_rfl
@[go_sem] theorem isOneT105 : isOneT Tryd.prog 105 = true := by kernel_rfl
@[go_sem] theorem elemT105 : elemT Tryd.prog 105 = none := by kernel_rfl
@[go_sem] theorem arrT105 : arrT Tryd.prog 105 = none := by kernel_rfl
@[go_sem] theorem intT105 : intT Tryd.prog 105 = none := by kernel_rfl
@[go_sem] theorem strT105 : strT Tryd.prog 105 = false := by kernel_rfl
@[go_sem] theorem boolT105 : boolT Tryd.prog 105 = false := by kernel_rfl
@[go_sem] theorem mapT105 : mapT Tryd.prog 105 = none := by kernel_rfl
@[go_sem] theorem sizeT105 : sizeT Tryd.prog 105 = 1 := by kernel_rfl
@[go_sem] theorem bytesT105 : bytesT Tryd.prog 105 = 8 := by kernel_rfl
@[go_sem] theorem zeroT105 : zeroT Tryd.prog 105 = some [D.nfun] := by kernel_rfl
@[go_sem] theorem hasZero105 : hasZero Tryd.prog 105 = true := by kernel_rfl
@[go_sem] theorem isAggT106 : isAggT Tryd.prog 106 = false := by kernel_rfl
@[go_sem] theorem isOneT106 : isOneT Tryd.prog 106 = true := by kernel_rfl
@[go_sem] theorem elemT106 : elemT Tryd.prog 106 = none := by kernel_rfl
@[go_sem] theorem arrT106 : arrT Tryd.prog 106 = none := by kernel_rfl
@[go_sem] theorem intT106 : intT Tryd.prog 106 = none := by kernel_rfl
@[go_sem] theorem strT106 : strT Tryd.prog 106 = false := by kernel_rfl
@[go_sem] theorem boolT106 : boolT Tryd.prog 106 = false := by kernel_rfl
@[go_sem] theorem mapT106 : mapT Tryd.prog 106 = none := by kernel_rfl
@[go_sem] theorem sizeT106 : sizeT Tryd.prog 106 = 1 := by kernel_rfl
@[go_sem] theorem bytesT106 : bytesT Tryd.prog 106 = 8 := by kernel_rfl
@[go_sem] theorem zeroT106 : zeroT Tryd.prog 106 = some [D.nfun] := by kernel_rfl
@[go_sem] theorem hasZero106 : hasZero Tryd.prog 106 = true := by kernel_rfl
@[go_sem] theorem isAggT107 : isAggT Tryd.prog 107 = false := by kernel_rfl
@[go_sem] theorem isOneT107 : isOneT Tryd.prog 107 = true := by kernel_rfl
@[go_sem] theorem elemT107 : elemT Tryd.prog 107 = none := by kernel_rfl
@[go_sem] theorem arrT107 : arrT Tryd.prog 107 = none := by kernel_rfl
@[go_sem] theorem intT107 : intT Tryd.prog 107 = none := by kernel_rfl
@[go_sem] theorem strT107 : strT Tryd.prog 107 = false := by kernel_rfl
@[go_sem] theorem boolT107 : boolT Tryd.prog 107 = false := by kernel_rfl
@[go_sem] theorem mapT107 : mapT Tryd.prog 107 = none := by kernel_rfl
@[go_sem] theorem sizeT107 : sizeT Tryd.prog 107 = 1 := by kernel_rfl
@[go_sem] theorem bytesT107 : bytesT Tryd.prog 107 = 8 := by kernel_rfl
@[go_sem] theorem zeroT107 : zeroT Tryd.prog 107 = some [D.nfun] := by kernel_rfl
@[go_sem] theorem hasZero107 : hasZero Tryd.prog 107 = true := by kernel_rfl
@[go_sem] theorem isAggT108 : isAggT Tryd.prog 108 = false := by kernel_rfl
@[go_sem] theorem isOneT108 : isOneT Tryd.prog 108 = true := by kernel_rfl
@[go_sem] theorem elemT108 : elemT Tryd.prog 108 = none := by kernel_rfl
@[go_sem] theorem arrT108 : arrT Tryd.prog 108 = none := by kernel_rfl
@[go_sem] theorem intT108 : intT Tryd.prog 108 = none := by kernel_rfl
@[go_sem] theorem strT108 : strT Tryd.prog 108 = false := by kernel_rfl
@[go_sem] theorem boolT108 : boolT Tryd.prog 108 = false := by kernel_rfl
@[go_sem] theorem mapT108 : mapT Tryd.prog 108 = none := by kernel_rfl
@[go_sem] theorem sizeT108 : sizeT Tryd.prog 108 = 1 := by kernel_rfl
@[go_sem] theorem bytesT108 : bytesT Tryd.prog 108 = 8 := by kernel_rfl
@[go_sem] theorem zeroT108 : zeroT Tryd.prog 108 = some [D.nfun] := by kernel_rfl
@[go_sem] theorem hasZero108 : hasZero Tryd.prog 108 = true := by kernel_rfl
@[go_sem] theorem isAggT109 : isAggT Tryd.prog 109 = false := by kernel_rfl
@[go_sem] theorem isOneT109 : isOneT Tryd.prog 109 = true := by kernel_rfl
@[go_sem] theorem elemT109 : elemT Tryd.prog 109 = none := by kernel_rfl
@[go_sem] theorem arrT109 : arrT Tryd.prog 109 = none := by kernel_rfl
@[go_sem] theorem intT109 : intT Tryd.prog 109 = none := by kernel_rfl
@[go_sem] theorem strT109 : strT Tryd.prog 109 = false := by kernel_rfl
@[go_sem] theorem boolT109 : boolT Tryd.prog 109 = false := by kernel_rfl
@[go_sem] theorem mapT109 : mapT Tryd.prog 109 = none := by kernel_rfl
@[go_sem] theorem sizeT109 : sizeT Tryd.prog 109 = 1 := by kernel_rfl
@[go_sem] theorem bytesT109 : bytesT Tryd.prog 109 = 8 := by kernel_rfl
@[go_sem] theorem zeroT109 : zeroT Tryd.prog 109 = some [D.nfun] := by kernel_rfl
@[go_sem] theorem hasZero109 : hasZero Tryd.prog 109 = true := by kernel_rfl
@[go_sem] theorem isAggT110 : isAggT Tryd.prog 110 = false := by kernel_rfl
@[go_sem] theorem isOneT110 : isOneT Tryd.prog 110 = true := by kernel_rfl
@[go_sem] theorem elemT110 : elemT Tryd.prog 110 = none := by kernel_rfl
@[go_sem] theorem arrT110 : arrT Tryd.prog 110 = none := by kernel_rfl
@[go_sem] theorem intT110 : intT Tryd.prog 110 = none := by kernel_rfl
@[go_sem] theorem strT110 : strT Tryd.prog 110 = false := by kernel_rfl
@[go_sem] theorem boolT110 : boolT Tryd.prog 110 = false := by kernel_rfl
@[go_sem] theorem mapT110 : mapT Tryd.prog 110 = none := by kernel_rfl
@[go_sem] theorem sizeT110 : sizeT Tryd.prog 110 = 1 := by kernel_rfl
@[go_sem] theorem bytesT110 : bytesT Tryd.prog 110 = 8 := by kernel_rfl
@[go_sem] theorem zeroT110 : zeroT Tryd.prog 110 = some [D.nfun] := by kernel_rfl
@[go_sem] theorem hasZero110 : hasZero Tryd.prog 110 = true := by kernel_rfl
@[go_sem] theorem isAggT111 : isAggT Tryd.prog 111 = false := by kernel_rfl
@[go_sem] theorem isOneT111 : isOneT Tryd.prog 111 = true := by kernel_rfl
@[go_sem] theorem elemT111 : elemT Tryd.prog 111 = none := by kernel_rfl
@[go_sem] theorem arrT111 : arrT Tryd.prog 111 = none := by kernel_rfl
@[go_sem] theorem intT111 : intT Tryd.prog 111 = none := by kernel_rfl
@[go_sem] theorem strT111 : strT Tryd.prog 111 = false := by kernel_rfl
@[go_sem] theorem boolT111 : boolT Tryd.prog 111 = false := by kernel_rfl
@[go_sem] theorem mapT111 : mapT Tryd.prog 111 = none := by kernel_rfl
@[go_sem] theorem sizeT111 : sizeT Tryd.prog 111 = 1 := by kernel_rfl
@[go_sem] theorem bytesT111 : bytesT Tryd.prog 111 = 8 := by kernel_rfl
@[go_sem] theorem zeroT111 : zeroT Tryd.prog 111 = some [D.nfun] := by kernel_rfl
@[go_sem] theorem hasZero111 : hasZero Tryd.prog 111 = true := by kernel_rfl
@[go_sem] theorem isAggT112 : isAggT Tryd.prog 112 = false := by kernel_rfl
@[go_sem] theorem isOneT112 : isOneT Tryd.prog 112 = true := by kernel_rfl
@[go_sem] theorem elemT112 : elemT Tryd.prog 112 = none := by kernel_rfl
@[go_sem] theorem arrT112 : arrT Tryd.prog 112 = none := by kernel_rfl
@[go_sem] theorem intT112 : intT Tryd.prog 112 = none := by kernel_rfl
@[go_sem] theorem strT112 : strT Tryd.prog 112 = false := by kernel_rfl
@[go_sem] theorem boolT112 : boolT Tryd.prog 112 = false := by kernel_rfl
@[go_sem] theorem mapT112 : mapT Tryd.prog 112 = none := by kernel_rfl
@[go_sem] theorem sizeT112 : sizeT Tryd.prog 112 = 1 := by kernel_rfl
@[go_sem] theorem bytesT112 : bytesT Tryd.prog 112 = 8 := by kernel_rfl
@[go_sem] theorem zeroT112 : zeroT Tryd.prog 112 = some [D.nfun] := by kernel_rfl
@[go_sem] theorem hasZero112 : hasZero Tryd.prog 112 = true := by kernel_rfl
@[go_sem] theorem isAggT113 : isAggT Tryd.prog 113 = false := by kernel_rfl
@[go_sem] theorem isOneT113 : isOneT Tryd.prog 113 = true := by kernel_rfl
@[go_sem] theorem elemT113 : elemT Tryd.prog 113 = none := by kernel_rfl
@[go_sem] theorem arrT113 : arrT Tryd.prog 113 = none := by kernel_rfl
@[go_sem] theorem intT113 : intT Tryd.prog 113 = none := by kernel_rfl
@[go_sem] theorem strT113 : strT Tryd.prog 113 = false := by kernel_rfl
@[go_sem] theorem boolT113 : boolT Tryd.prog 113 = false := by kernel_rfl
@[go_sem] theorem mapT113 : mapT Tryd.prog 113 = none := by kernel_rfl
@[go_sem] theorem sizeT113 : sizeT Tryd.prog 113 = 1 := by kernel_rfl
@[go_sem] theorem bytesT113 : bytesT Tryd.prog 113 = 8 := by kernel_rfl
@[go_sem] theorem zeroT113 : zeroT Tryd.prog 113 = some [D.nfun] := by kernel_rfl
@[go_sem] theorem hasZero113 : hasZero Tryd.prog 113 = true := by kernel_rfl
@[go_sem] theorem isAggT114 : isAggT Tryd.prog 114 = false := by kernel_rfl
@[go_sem] theorem isOneT114 : isOneT Tryd.prog 114 = true := by kernel_rfl
@[go_sem] theorem elemT114 : elemT Tryd.prog 114 = none := by kernel_rfl
@[go_sem] theorem arrT114 : arrT Tryd.prog 114 = none := by kernel_rfl
@[go_sem] theorem intT114 : intT Tryd.prog 114 = none := by kernel_rfl
@[go_sem] theorem strT114 : strT Tryd.prog 114 = false := by kernel_rfl
@[go_sem] theorem boolT114 : boolT Tryd.prog 114 = false := by kernel_rfl
@[go_sem] theorem mapT114 : mapT Tryd.prog 114 = none := by kernel_rfl
@[go_sem] theorem sizeT114 : sizeT Tryd.prog 114 = 1 := by kernel_rfl
@[go_sem] theorem bytesT114 : bytesT Tryd.prog 114 = 8 := by kernel_rfl
@[go_sem] theorem zeroT114 : zeroT Tryd.prog 114 = some [D.nfun] := by kernel_rfl
@[go_sem] theorem hasZero114 : hasZero Tryd.prog 114 = true := by kernel_rfl
@[go_sem] theorem isAggT115 : isAggT Tryd.prog 115 = false := by kernel_rfl
@[go_sem] theorem isOneT115 : isOneT Tryd.prog 115 = true := by kernel_rfl
@[go_sem] theorem elemT115 : elemT Tryd.prog 115 = none := by kernel_rfl
@[go_sem] theorem arrT115 : arrT Tryd.prog 115 = none := by kernel_rfl
@[go_sem] theorem intT115 : intT Tryd.prog 115 = none := by kernel_rfl
@[go_sem] theorem strT115 : strT Tryd.prog 115 = false := by kernel_rfl
@[go_sem] theorem boolT115 : boolT Tryd.prog 115 = false := by kernel_rfl
@[go_sem] theorem mapT115 : mapT Tryd.prog 115 = none := by kernel_rfl
@[go_sem] theorem sizeT115 : sizeT Tryd.prog 115 = 1 := by kernel_rfl
@[go_sem] theorem bytesT115 : bytesT Tryd.prog 115 = 8 := by kernel_rfl
@[go_sem] theorem zeroT115 : zeroT Tryd.prog 115 = some [D.nfun] := by kernel_rfl
@[go_sem] theorem hasZero115 : hasZero Tryd.prog 115 = true := by kernel_rfl
@[go_sem] theorem isAggT116 : isAggT Tryd.prog 116 = false := by kernel_rfl
@[go_sem] theorem isOneT116 : isOneT Tryd.prog 116 = true := by kernel_rfl
@[go_sem] theorem elemT116 : elemT Tryd.prog 116 = none := by kernel_rfl
@[go_sem] theorem arrT116 : arrT Tryd.prog 116 = none := by kernel_rfl
@[go_sem] theorem intT116 : intT Tryd.prog 116 = none := by kernel_rfl
@[go_sem] theorem strT116 : strT Tryd.prog 116 = false := by kernel_rfl
@[go_sem] theorem boolT116 : boolT Tryd.prog 116 = false := by kernel_rfl
@[go_sem] theorem mapT116 : mapT Tryd.prog 116 = none := by kernel_rfl
@[go_sem] theorem sizeT116 : sizeT Tryd.prog 116 = 1 := by kernel_rfl
@[go_sem] theorem bytesT116 : bytesT Tryd.prog 116 = 8 := by kernel_rfl
@[go_sem] theorem zeroT116 : zeroT Tryd.prog 116 = some [D.nfun] := by kernel_rfl
@[go_sem] theorem hasZero116 : hasZero Tryd.prog 116 = true := by kernel_rfl
@[go_sem] theorem isAggT117 : isAggT Tryd.prog 117 = false := by kernel_rfl
@[go_sem] theorem isOneT117 : isOneT Tryd.prog 117 = true := by kernel_rfl
@[go_sem] theorem elemT117 : elemT Tryd.prog 117 = none := by kernel_rfl
@[go_sem] theorem arrT117 : arrT Tryd.prog 117 = none := by kernel_rfl
@[go_sem] theorem intT117 : intT Tryd.prog 117 = none := by kernel_rfl
@[go_sem] theorem strT117 : strT Tryd.prog 117 = false := by kernel_rfl
@[go_sem] theorem boolT117 : boolT Tryd.prog 117 = false := by kernel_rfl
@[go_sem] theorem mapT117 : mapT Tryd.prog 117 = none := by kernel_rfl
@[go_sem] theorem sizeT117 : sizeT Tryd.prog 117 = 1 := by kernel_rfl
@[go_sem] theorem bytesT117 : bytesT Tryd.prog 117 = 8 := by kernel_rfl
@[go_sem] theorem zeroT117 : zeroT Tryd.prog 117 = some [D.nfun] := by kernel_rfl
@[go_sem] theorem hasZero117 : hasZero Tryd.prog 117 = true := by kernel_rfl
@[go_sem] theorem isAggT118 : isAggT Tryd.prog 118 = false := by kernel_rfl
@[go_sem] theorem isOneT118 : isOneT Tryd.prog 118 = true := by kernel_rfl
@[go_sem] theorem elemT118 : elemT Tryd.prog 118 = none := by kernel_rfl
@[go_sem] theorem arrT118 : arrT Tryd.prog 118 = none := by kernel_rfl
@[go_sem] theorem intT118 : intT Tryd.prog 118 = none := by kernel_rfl
@[go_sem] theorem strT118 : strT Tryd.prog 118 = false := by kernel_rfl
@[go_sem] theorem boolT118 : boolT Tryd.prog 118 = false := by kernel_rfl
@[go_sem] theorem mapT118 : mapT Tryd.prog 118 = none := by kernel_rfl
@[go_sem] theorem sizeT118 : sizeT Tryd.prog 118 = 1 := by kernel_rfl
@[go_sem] theorem bytesT118 : bytesT Tryd.prog 118 = 8 := by kernel_rfl
@[go_sem] theorem zeroT118 : zeroT Tryd.prog 118 = some [D.nfun] := by kernel_rfl
@[go_sem] theorem hasZero118 : hasZero Tryd.prog 118 = true := by kernel_rfl
@[go_sem] theorem isAggT119 : isAggT Tryd.prog 119 = false := by kernel_rfl
@[go_sem] theorem isOneT119 : isOneT Tryd.prog 119 = true := by kernel_rfl
@[go_sem] theorem elemT119 : elemT Tryd.prog 119 = none := by kernel_rfl
@[go_sem] theorem arrT119 : arrT Tryd.prog 119 = none := by kernel_rfl
@[go_sem] theorem intT119 : intT Tryd.prog 119 = none := by kernel_rfl
@[go_sem] theorem strT119 : strT Tryd.prog 119 = false := by kernel_rfl
@[go_sem] theorem boolT119 : boolT Tryd.prog 119 = false := by kernel_rfl
@[go_sem] theorem mapT119 : mapT Tryd.prog 119 = none := by kernel_rfl
@[go_sem] theorem sizeT119 : sizeT Tryd.prog 119 = 1 := by kernel_rfl
@[go_sem] theorem bytesT119 : bytesT Tryd.prog 119 = 8 := by kernel_rfl
@[go_sem] theorem zeroT119 : zeroT Tryd.prog 119 = some [D.nfun] := by kernel_rfl
@[go_sem] theorem hasZero119 : hasZero Tryd.prog 119 = true := by kernel_rfl
@[go_sem] theorem isAggT120 : isAggT Tryd.prog 120 = false := by kernel_rfl
@[go_sem] theorem isOneT120 : isOneT Tryd.prog 120 = true := by kernel_rfl
@[go_sem] theorem elemT120 : elemT Tryd.prog 120 = none := by kernel_rfl
@[go_sem] theorem arrT120 : arrT Tryd.prog 120 = none := by kernel_rfl
@[go_sem] theorem intT120 : intT Tryd.prog 120 = none := by kernel_rfl
@[go_sem] theorem strT120 : strT Tryd.prog 120 = false := by kernel_rfl
@[go_sem] theorem boolT120 : boolT Tryd.prog 120 = false := by kernel_rfl
@[go_sem] theorem mapT120 : mapT Tryd.prog 120 = none := by kernel_rfl
@[go_sem] theorem sizeT120 : sizeT Tryd.prog 120 = 1 := by kernel_rfl
@[go_sem] theorem bytesT120 : bytesT Tryd.prog 120 = 8 := by kernel_rfl
@[go_sem] theorem zeroT120 : zeroT Tryd.prog 120 = some [D.nfun] := by kernel_rfl
@[go_sem] theorem hasZero120 : hasZero Tryd.prog 120 = true := by kernel_rfl
@[go_sem] theorem isAggT121 : isAggT Tryd.prog 121 = false := by kernel_rfl
@[go_sem] theorem isOneT121 : isOneT Tryd.prog 121 = true := by kernel_rfl
@[go_sem] theorem elemT121 : elemT Tryd.prog 121 = none := by kernel_rfl
@[go_sem] theorem arrT121 : arrT Tryd.prog 121 = none := by kernel_rfl
@[go_sem] theorem intT121 : intT Tryd.prog 121 = none := by kernel_rfl
@[go_sem] theorem strT121 : strT Tryd.prog 121 = false := by kernel_rfl
@[go_sem] theorem boolT121 : boolT Tryd.prog 121 = false := by kernel_rfl
@[go_sem] theorem mapT121 : mapT Tryd.prog 121 = none := by kernel_rfl
@[go_sem] theorem sizeT121 : sizeT Tryd.prog 121 = 1 := by kernel_rfl
@[go_sem] theorem bytesT121 : bytesT Tryd.prog 121 = 8 := by kernel_rfl
@[go_sem] theorem zeroT121 : zeroT Tryd.prog 121 = some [D.nfun] := by kernel_rfl
@[go_sem] theorem hasZero121 : hasZero Tryd.prog 121 = true := by kernel_rfl
@[go_sem] theorem isAggT127 : isAggT Tryd.prog 127 = false := by kernel_rfl
@[go_sem] theorem isOneT127 : isOneT Tryd.prog 127 = true := by kernel_rfl
@[go_sem] theorem elemT127 : elemT Tryd.prog 127 = none := by kernel_rfl
@[go_sem] theorem arrT127 : arrT Tryd.prog 127 = none := by kernel_rfl
@[go_sem] theorem intT127 : intT Tryd.prog 127 = none := by kernel_rfl
@[go_sem] theorem strT127 : strT Tryd.prog 127 = false := by kernel_rfl
@[go_sem] theorem boolT127 : boolT Tryd.prog 127 = false := by kernel_rfl
@[go_sem] theorem mapT127 : mapT Tryd.prog 127 = none := by kernel_rfl
@[go_sem] theorem sizeT127 : sizeT Tryd.prog 127 = 1 := by kernel_rfl
@[go_sem] theorem bytesT127 : bytesT Tryd.prog 127 = 8 := by kernel_rfl
@[go_sem] theorem zeroT127 : zeroT Tryd.prog 127 = some [D.nfun] := by kernel_rfl
@[go_sem] theorem hasZero127 : hasZero Tryd.prog 127 = true := by kernel_rfl
@[go_sem] theorem isAggT128 : isAggT Tryd.prog 128 = false := by kernel_rfl
@[go_sem] theorem isOneT128 : isOneT Tryd.prog 128 = true := by kernel_rfl
@[go_sem] theorem elemT128 : elemT Tryd.prog 128 = none := by kernel_rfl
@[go_sem] theorem arrT128 : arrT Tryd.prog 128 = none := by kernel_rfl
@[go_sem] theorem intT128 : intT Tryd.prog 128 = some .u32 := by kernel_rfl
@[go_sem] theorem strT128 : strT Tryd.prog 128 = false := by kernel_rfl
@[go_sem] theorem boolT128 : boolT Tryd.prog 128 = false := by kernel_rfl
@[go_sem] theorem mapT128 : mapT Tryd.prog 128 = none := by kernel_rfl
@[go_sem] theorem sizeT128 : sizeT Tryd.prog 128 = 1 := by kernel_rfl
@[go_sem] theorem bytesT128 : bytesT Tryd.prog 128 = 4 := by kernel_rfl
@[go_sem] theorem zeroT128 : zeroT Tryd.prog 128 = some [D.int .u32 0] := by kernel_rfl
@[go_sem] theorem hasZero128 : hasZero Tryd.prog 128 = true := by kernel_rfl
@[go_sem] theorem isAggT132 : isAggT Tryd.prog 132 = false := by kernel_rfl
@[go_sem] theorem isOneT132 : isOneT Tryd.prog 132 = true := by kernel_rfl
@[go_sem] theorem elemT132 : elemT Tryd.prog 132 = none := by kernel_rfl
@[go_sem] theorem arrT132 : arrT Tryd.prog 132 = none := by kernel_rfl
@[go_sem] theorem intT132 : intT Tryd.prog 132 = none := by kernel_rfl
@[go_sem] theorem strT132 : strT Tryd.prog 132 = false := by kernel_rfl
@[go_sem] theorem boolT132 : boolT Tryd.prog 132 = false := by kernel_rfl
@[go_sem] theorem mapT132 : mapT Tryd.prog 132 = none := by kernel_rfl
@[go_sem] theorem sizeT132 : sizeT Tryd.prog 132 = 1 := by kernel_rfl
@[go_sem] theorem bytesT132 : bytesT Tryd.prog 132 = 8 := by kernel_rfl
@[go_sem] theorem zeroT132 : zeroT Tryd.prog 132 = some [D.nptr] := by kernel_rfl
@[go_sem] theorem hasZero132 : hasZero Tryd.prog 132 = true := by kernel_rfl
@[go_sem] theorem keyT90 : keyT Tryd.prog 90 = true := by kernel_rfl
@[go_sem] theorem zeroD4 : zeroD Tryd.prog 4 = some (D.bool false) := by kernel_rfl
@[go_sem] theorem keyT23 : keyT Tryd.prog 23 = true := by kernel_rfl
theorem eqD_struct {P : Program} {d : Nat} {t : TypeId} {fs : Array Field} {xs ys : List D} (hu : P.underlying t = some (.struct fs)) (hs : P.stoodInHeld t = false) : eqD P (d + 1) t (.agg xs) (.agg ys) = eqFieldsD (eqD P d) P xs ys fs.toList := by
  simp only [eqD, hu, hs, if_true]
theorem eqD_int {P : Program} {d : Nat} {t : TypeId} {k : IntKind} {a b : Int} (hu : P.underlying t = some (.int k)) : eqD P (d + 1) t (.int k a) (.int k b) = some (decide (a = b)) := by
  simp only [eqD, hu, if_true, Option.some.injEq]; by_cases h : a = b <;> simp [h]
theorem eqD_str {P : Program} {d : Nat} {t : TypeId} {a b : ByteArray} (hu : P.underlying t = some .string) : eqD P (d + 1) t (.str a) (.str b) = some (decide (a = b)) := by
  simp only [eqD, hu]
theorem guardT22 : Tryd.prog.eqGuardType Tryd.prog.depth 22 = false := by kernel_rfl
theorem eqT22 (d : Nat) (a0 b0 : Int) (a1 b1 : Int) (a2 b2 : Int) : eqD Tryd.prog (d + 2) 22 (.agg [.int .i64 a0, .int .i64 a1, .int .i64 a2]) (.agg [.int .i64 b0, .int .i64 b1, .int .i64 b2]) = some (decide (a0 = b0) && decide (a1 = b1) && decide (a2 = b2)) := by
  rw [eqD_struct Tryd.underlying22 (by kernel_rfl)]
  simp only [eqFieldsD, takeD, List.getElem?_cons_zero, List.getElem?_cons_succ, List.drop_succ_cons, List.drop_zero, List.take_succ_cons, List.take_zero, List.length_cons, List.length_nil, Nat.reduceAdd, Nat.reduceLeDiff, if_true, if_false, Bool.false_eq_true, ne_eq, String.reduceEq, not_false_eq_true, decide_eq_true_eq, isAggT3, isOneT3, sizeT3, eqD_int Tryd.underlying3]
  (repeat' split) <;> simp_all
@[go_sem] theorem eqU22 (a0 b0 : Int) (a1 b1 : Int) (a2 b2 : Int) : eqD Tryd.prog 8 22 (.agg [.int .i64 a0, .int .i64 a1, .int .i64 a2]) (.agg [.int .i64 b0, .int .i64 b1, .int .i64 b2]) = some (decide (a0 = b0) && decide (a1 = b1) && decide (a2 = b2)) := eqT22 6 a0 b0 a1 b1 a2 b2
attribute [go_sem] guardT22
theorem guardT23 : Tryd.prog.eqGuardType Tryd.prog.depth 23 = false := by kernel_rfl
theorem eqT23 (d : Nat) (a0 b0 : Int) (a1 b1 : Int) (a2 b2 : Int) : eqD Tryd.prog (d + 2) 23 (.agg [.int .i64 a0, .int .i64 a1, .int .i64 a2]) (.agg [.int .i64 b0, .int .i64 b1, .int .i64 b2]) = some (decide (a0 = b0) && decide (a1 = b1) && decide (a2 = b2)) := by
  rw [eqD_struct Tryd.underlying23 (by kernel_rfl)]
  simp only [eqFieldsD, takeD, List.getElem?_cons_zero, List.getElem?_cons_succ, List.drop_succ_cons, List.drop_zero, List.take_succ_cons, List.take_zero, List.length_cons, List.length_nil, Nat.reduceAdd, Nat.reduceLeDiff, if_true, if_false, Bool.false_eq_true, ne_eq, String.reduceEq, not_false_eq_true, decide_eq_true_eq, isAggT3, isOneT3, sizeT3, eqD_int Tryd.underlying3]
  (repeat' split) <;> simp_all
@[go_sem] theorem eqU23 (a0 b0 : Int) (a1 b1 : Int) (a2 b2 : Int) : eqD Tryd.prog 8 23 (.agg [.int .i64 a0, .int .i64 a1, .int .i64 a2]) (.agg [.int .i64 b0, .int .i64 b1, .int .i64 b2]) = some (decide (a0 = b0) && decide (a1 = b1) && decide (a2 = b2)) := eqT23 6 a0 b0 a1 b1 a2 b2
attribute [go_sem] guardT23
theorem guardT34 : Tryd.prog.eqGuardType Tryd.prog.depth 34 = false := by kernel_rfl
theorem eqT34 (d : Nat) (a0 b0 : Int) (a1 b1 : Int) (a2 b2 : Int) : eqD Tryd.prog (d + 2) 34 (.agg [.int .i64 a0, .int .i64 a1, .int .i64 a2]) (.agg [.int .i64 b0, .int .i64 b1, .int .i64 b2]) = some (decide (a0 = b0) && decide (a1 = b1) && decide (a2 = b2)) := by
  rw [eqD_struct Tryd.underlying34 (by kernel_rfl)]
  simp only [eqFieldsD, takeD, List.getElem?_cons_zero, List.getElem?_cons_succ, List.drop_succ_cons, List.drop_zero, List.take_succ_cons, List.take_zero, List.length_cons, List.length_nil, Nat.reduceAdd, Nat.reduceLeDiff, if_true, if_false, Bool.false_eq_true, ne_eq, String.reduceEq, not_false_eq_true, decide_eq_true_eq, isAggT3, isOneT3, sizeT3, eqD_int Tryd.underlying3]
  (repeat' split) <;> simp_all
@[go_sem] theorem eqU34 (a0 b0 : Int) (a1 b1 : Int) (a2 b2 : Int) : eqD Tryd.prog 8 34 (.agg [.int .i64 a0, .int .i64 a1, .int .i64 a2]) (.agg [.int .i64 b0, .int .i64 b1, .int .i64 b2]) = some (decide (a0 = b0) && decide (a1 = b1) && decide (a2 = b2)) := eqT34 6 a0 b0 a1 b1 a2 b2
attribute [go_sem] guardT34
theorem guardT35 : Tryd.prog.eqGuardType Tryd.prog.depth 35 = false := by kernel_rfl
theorem eqT35 (d : Nat) (a0 b0 : Int) (a1 b1 : Int) (a2 b2 : Int) : eqD Tryd.prog (d + 2) 35 (.agg [.int .i64 a0, .int .i64 a1, .int .i64 a2]) (.agg [.int .i64 b0, .int .i64 b1, .int .i64 b2]) = some (decide (a0 = b0) && decide (a1 = b1) && decide (a2 = b2)) := by
  rw [eqD_struct Tryd.underlying35 (by kernel_rfl)]
  simp only [eqFieldsD, takeD, List.getElem?_cons_zero, List.getElem?_cons_succ, List.drop_succ_cons, List.drop_zero, List.take_succ_cons, List.take_zero, List.length_cons, List.length_nil, Nat.reduceAdd, Nat.reduceLeDiff, if_true, if_false, Bool.false_eq_true, ne_eq, String.reduceEq, not_false_eq_true, decide_eq_true_eq, isAggT3, isOneT3, sizeT3, eqD_int Tryd.underlying3]
  (repeat' split) <;> simp_all
@[go_sem] theorem eqU35 (a0 b0 : Int) (a1 b1 : Int) (a2 b2 : Int) : eqD Tryd.prog 8 35 (.agg [.int .i64 a0, .int .i64 a1, .int .i64 a2]) (.agg [.int .i64 b0, .int .i64 b1, .int .i64 b2]) = some (decide (a0 = b0) && decide (a1 = b1) && decide (a2 = b2)) := eqT35 6 a0 b0 a1 b1 a2 b2
attribute [go_sem] guardT35
theorem guardT36 : Tryd.prog.eqGuardType Tryd.prog.depth 36 = false := by kernel_rfl
theorem eqT36 (d : Nat) (a0 b0 : ByteArray) (a1 b1 : Int) (a2 b2 : Int) (a3 b3 : Int) : eqD Tryd.prog (d + 3) 36 (.agg [.str a0, .int .i64 a1, .int .i64 a2, .int .i64 a3]) (.agg [.str b0, .int .i64 b1, .int .i64 b2, .int .i64 b3]) = some (decide (a0 = b0) && (decide (a1 = b1) && decide (a2 = b2) && decide (a3 = b3))) := by
  rw [eqD_struct Tryd.underlying36 (by kernel_rfl)]
  simp only [eqFieldsD, takeD, List.getElem?_cons_zero, List.getElem?_cons_succ, List.drop_succ_cons, List.drop_zero, List.take_succ_cons, List.take_zero, List.length_cons, List.length_nil, Nat.reduceAdd, Nat.reduceLeDiff, if_true, if_false, Bool.false_eq_true, ne_eq, String.reduceEq, not_false_eq_true, decide_eq_true_eq, isAggT9, isOneT9, sizeT9, eqD_str Tryd.underlying9, isAggT35, isOneT35, sizeT35, eqT35]
  (repeat' split) <;> simp_all
@[go_sem] theorem eqU36 (a0 b0 : ByteArray) (a1 b1 : Int) (a2 b2 : Int) (a3 b3 : Int) : eqD Tryd.prog 8 36 (.agg [.str a0, .int .i64 a1, .int .i64 a2, .int .i64 a3]) (.agg [.str b0, .int .i64 b1, .int .i64 b2, .int .i64 b3]) = some (decide (a0 = b0) && (decide (a1 = b1) && decide (a2 = b2) && decide (a3 = b3))) := eqT36 5 a0 b0 a1 b1 a2 b2 a3 b3
attribute [go_sem] guardT36
theorem guardT37 : Tryd.prog.eqGuardType Tryd.prog.depth 37 = false := by kernel_rfl
theorem eqT37 (d : Nat) (a0 b0 : ByteArray) (a1 b1 : Int) (a2 b2 : Int) (a3 b3 : Int) : eqD Tryd.prog (d + 3) 37 (.agg [.str a0, .int .i64 a1, .int .i64 a2, .int .i64 a3]) (.agg [.str b0, .int .i64 b1, .int .i64 b2, .int .i64 b3]) = some (decide (a0 = b0) && (decide (a1 = b1) && decide (a2 = b2) && decide (a3 = b3))) := by
  rw [eqD_struct Tryd.underlying37 (by kernel_rfl)]
  simp only [eqFieldsD, takeD, List.getElem?_cons_zero, List.getElem?_cons_succ, List.drop_succ_cons, List.drop_zero, List.take_succ_cons, List.take_zero, List.length_cons, List.length_nil, Nat.reduceAdd, Nat.reduceLeDiff, if_true, if_false, Bool.false_eq_true, ne_eq, String.reduceEq, not_false_eq_true, decide_eq_true_eq, isAggT9, isOneT9, sizeT9, eqD_str Tryd.underlying9, isAggT35, isOneT35, sizeT35, eqT35]
  (repeat' split) <;> simp_all
@[go_sem] theorem eqU37 (a0 b0 : ByteArray) (a1 b1 : Int) (a2 b2 : Int) (a3 b3 : Int) : eqD Tryd.prog 8 37 (.agg [.str a0, .int .i64 a1, .int .i64 a2, .int .i64 a3]) (.agg [.str b0, .int .i64 b1, .int .i64 b2, .int .i64 b3]) = some (decide (a0 = b0) && (decide (a1 = b1) && decide (a2 = b2) && decide (a3 = b3))) := eqT37 5 a0 b0 a1 b1 a2 b2 a3 b3
attribute [go_sem] guardT37
theorem guardT89 : Tryd.prog.eqGuardType Tryd.prog.depth 89 = false := by kernel_rfl
theorem eqT89 (d : Nat) (a0 b0 : Int) (a1 b1 : ByteArray) : eqD Tryd.prog (d + 2) 89 (.agg [.int .i64 a0, .str a1]) (.agg [.int .i64 b0, .str b1]) = some (decide (a0 = b0) && decide (a1 = b1)) := by
  rw [eqD_struct Tryd.underlying89 (by kernel_rfl)]
  simp only [eqFieldsD, takeD, List.getElem?_cons_zero, List.getElem?_cons_succ, List.drop_succ_cons, List.drop_zero, List.take_succ_cons, List.take_zero, List.length_cons, List.length_nil, Nat.reduceAdd, Nat.reduceLeDiff, if_true, if_false, Bool.false_eq_true, ne_eq, String.reduceEq, not_false_eq_true, decide_eq_true_eq, isAggT3, isOneT3, sizeT3, eqD_int Tryd.underlying3, isAggT9, isOneT9, sizeT9, eqD_str Tryd.underlying9]
  (repeat' split) <;> simp_all
@[go_sem] theorem eqU89 (a0 b0 : Int) (a1 b1 : ByteArray) : eqD Tryd.prog 8 89 (.agg [.int .i64 a0, .str a1]) (.agg [.int .i64 b0, .str b1]) = some (decide (a0 = b0) && decide (a1 = b1)) := eqT89 6 a0 b0 a1 b1
attribute [go_sem] guardT89
theorem guardT90 : Tryd.prog.eqGuardType Tryd.prog.depth 90 = false := by kernel_rfl
theorem eqT90 (d : Nat) (a0 b0 : Int) (a1 b1 : ByteArray) : eqD Tryd.prog (d + 2) 90 (.agg [.int .i64 a0, .str a1]) (.agg [.int .i64 b0, .str b1]) = some (decide (a0 = b0) && decide (a1 = b1)) := by
  rw [eqD_struct Tryd.underlying90 (by kernel_rfl)]
  simp only [eqFieldsD, takeD, List.getElem?_cons_zero, List.getElem?_cons_succ, List.drop_succ_cons, List.drop_zero, List.take_succ_cons, List.take_zero, List.length_cons, List.length_nil, Nat.reduceAdd, Nat.reduceLeDiff, if_true, if_false, Bool.false_eq_true, ne_eq, String.reduceEq, not_false_eq_true, decide_eq_true_eq, isAggT3, isOneT3, sizeT3, eqD_int Tryd.underlying3, isAggT9, isOneT9, sizeT9, eqD_str Tryd.underlying9]
  (repeat' split) <;> simp_all
@[go_sem] theorem eqU90 (a0 b0 : Int) (a1 b1 : ByteArray) : eqD Tryd.prog 8 90 (.agg [.int .i64 a0, .str a1]) (.agg [.int .i64 b0, .str b1]) = some (decide (a0 = b0) && decide (a1 = b1)) := eqT90 6 a0 b0 a1 b1
attribute [go_sem] guardT90
theorem mixed : Tryd.prog.follows .mixedOrders = true := by kernel_rfl

end Go.Proofs.YtkhjpcmpljpmjaaDoor.Facts
