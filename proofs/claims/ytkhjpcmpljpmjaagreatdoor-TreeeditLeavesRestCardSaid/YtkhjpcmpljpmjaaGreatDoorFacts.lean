/-
 The closed facts of the seat's type table that the abstract layer uses, printed by program. No condition.
-/
import Derived.Test.YtkhjpcmpljpmjaaGreatDoorLayD
import Derived.Test.YtkhjpcmpljpmjaaGreatDoorProg
import Derived.KernelRfl
set_option linter.unusedSimpArgs false
set_option linter.unusedVariables false
namespace Go.Proofs.YtkhjpcmpljpmjaaGreatDoor.Facts
open Go.Proofs.YtkhjpcmpljpmjaaGreatDoor.Abs
@[go_sem] theorem isAggT1 : isAggT Tryz.prog 1 = false := by kernel_rfl
@[go_sem] theorem isOneT1 : isOneT Tryz.prog 1 = true := by kernel_rfl
@[go_sem] theorem elemT1 : elemT Tryz.prog 1 = none := by kernel_rfl
@[go_sem] theorem arrT1 : arrT Tryz.prog 1 = none := by kernel_rfl
@[go_sem] theorem intT1 : intT Tryz.prog 1 = none := by kernel_rfl
@[go_sem] theorem strT1 : strT Tryz.prog 1 = false := by kernel_rfl
@[go_sem] theorem boolT1 : boolT Tryz.prog 1 = false := by kernel_rfl
@[go_sem] theorem mapT1 : mapT Tryz.prog 1 = none := by kernel_rfl
@[go_sem] theorem sizeT1 : sizeT Tryz.prog 1 = 1 := by kernel_rfl
@[go_sem] theorem bytesT1 : bytesT Tryz.prog 1 = 8 := by kernel_rfl
@[go_sem] theorem zeroT1 : zeroT Tryz.prog 1 = some [D.nfun] := by kernel_rfl
@[go_sem] theorem hasZero1 : hasZero Tryz.prog 1 = true := by kernel_rfl
@[go_sem] theorem isAggT2 : isAggT Tryz.prog 2 = false := by kernel_rfl
@[go_sem] theorem isOneT2 : isOneT Tryz.prog 2 = true := by kernel_rfl
@[go_sem] theorem elemT2 : elemT Tryz.prog 2 = none := by kernel_rfl
@[go_sem] theorem arrT2 : arrT Tryz.prog 2 = none := by kernel_rfl
@[go_sem] theorem intT2 : intT Tryz.prog 2 = some .i64 := by kernel_rfl
@[go_sem] theorem strT2 : strT Tryz.prog 2 = false := by kernel_rfl
@[go_sem] theorem boolT2 : boolT Tryz.prog 2 = false := by kernel_rfl
@[go_sem] theorem mapT2 : mapT Tryz.prog 2 = none := by kernel_rfl
@[go_sem] theorem sizeT2 : sizeT Tryz.prog 2 = 1 := by kernel_rfl
@[go_sem] theorem bytesT2 : bytesT Tryz.prog 2 = 8 := by kernel_rfl
@[go_sem] theorem zeroT2 : zeroT Tryz.prog 2 = some [D.int .i64 0] := by kernel_rfl
@[go_sem] theorem hasZero2 : hasZero Tryz.prog 2 = true := by kernel_rfl
@[go_sem] theorem isAggT3 : isAggT Tryz.prog 3 = false := by kernel_rfl
@[go_sem] theorem isOneT3 : isOneT Tryz.prog 3 = true := by kernel_rfl
@[go_sem] theorem elemT3 : elemT Tryz.prog 3 = none := by kernel_rfl
@[go_sem] theorem arrT3 : arrT Tryz.prog 3 = none := by kernel_rfl
@[go_sem] theorem intT3 : intT Tryz.prog 3 = some .i64 := by kernel_rfl
@[go_sem] theorem strT3 : strT Tryz.prog 3 = false := by kernel_rfl
@[go_sem] theorem boolT3 : boolT Tryz.prog 3 = false := by kernel_rfl
@[go_sem] theorem mapT3 : mapT Tryz.prog 3 = none := by kernel_rfl
@[go_sem] theorem sizeT3 : sizeT Tryz.prog 3 = 1 := by kernel_rfl
@[go_sem] theorem bytesT3 : bytesT Tryz.prog 3 = 8 := by kernel_rfl
@[go_sem] theorem zeroT3 : zeroT Tryz.prog 3 = some [D.int .i64 0] := by kernel_rfl
@[go_sem] theorem hasZero3 : hasZero Tryz.prog 3 = true := by kernel_rfl
@[go_sem] theorem isAggT4 : isAggT Tryz.prog 4 = false := by kernel_rfl
@[go_sem] theorem isOneT4 : isOneT Tryz.prog 4 = true := by kernel_rfl
@[go_sem] theorem elemT4 : elemT Tryz.prog 4 = none := by kernel_rfl
@[go_sem] theorem arrT4 : arrT Tryz.prog 4 = none := by kernel_rfl
@[go_sem] theorem intT4 : intT Tryz.prog 4 = none := by kernel_rfl
@[go_sem] theorem strT4 : strT Tryz.prog 4 = false := by kernel_rfl
@[go_sem] theorem boolT4 : boolT Tryz.prog 4 = true := by kernel_rfl
@[go_sem] theorem mapT4 : mapT Tryz.prog 4 = none := by kernel_rfl
@[go_sem] theorem sizeT4 : sizeT Tryz.prog 4 = 1 := by kernel_rfl
@[go_sem] theorem bytesT4 : bytesT Tryz.prog 4 = 1 := by kernel_rfl
@[go_sem] theorem zeroT4 : zeroT Tryz.prog 4 = some [D.bool false] := by kernel_rfl
@[go_sem] theorem hasZero4 : hasZero Tryz.prog 4 = true := by kernel_rfl
@[go_sem] theorem isAggT5 : isAggT Tryz.prog 5 = false := by kernel_rfl
@[go_sem] theorem isOneT5 : isOneT Tryz.prog 5 = true := by kernel_rfl
@[go_sem] theorem elemT5 : elemT Tryz.prog 5 = none := by kernel_rfl
@[go_sem] theorem arrT5 : arrT Tryz.prog 5 = none := by kernel_rfl
@[go_sem] theorem intT5 : intT Tryz.prog 5 = some .u8 := by kernel_rfl
@[go_sem] theorem strT5 : strT Tryz.prog 5 = false := by kernel_rfl
@[go_sem] theorem boolT5 : boolT Tryz.prog 5 = false := by kernel_rfl
@[go_sem] theorem mapT5 : mapT Tryz.prog 5 = none := by kernel_rfl
@[go_sem] theorem sizeT5 : sizeT Tryz.prog 5 = 1 := by kernel_rfl
@[go_sem] theorem bytesT5 : bytesT Tryz.prog 5 = 1 := by kernel_rfl
@[go_sem] theorem zeroT5 : zeroT Tryz.prog 5 = some [D.int .u8 0] := by kernel_rfl
@[go_sem] theorem hasZero5 : hasZero Tryz.prog 5 = true := by kernel_rfl
@[go_sem] theorem isAggT9 : isAggT Tryz.prog 9 = false := by kernel_rfl
@[go_sem] theorem isOneT9 : isOneT Tryz.prog 9 = true := by kernel_rfl
@[go_sem] theorem elemT9 : elemT Tryz.prog 9 = none := by kernel_rfl
@[go_sem] theorem arrT9 : arrT Tryz.prog 9 = none := by kernel_rfl
@[go_sem] theorem intT9 : intT Tryz.prog 9 = none := by kernel_rfl
@[go_sem] theorem strT9 : strT Tryz.prog 9 = true := by kernel_rfl
@[go_sem] theorem boolT9 : boolT Tryz.prog 9 = false := by kernel_rfl
@[go_sem] theorem mapT9 : mapT Tryz.prog 9 = none := by kernel_rfl
@[go_sem] theorem sizeT9 : sizeT Tryz.prog 9 = 1 := by kernel_rfl
@[go_sem] theorem bytesT9 : bytesT Tryz.prog 9 = 16 := by kernel_rfl
@[go_sem] theorem zeroT9 : zeroT Tryz.prog 9 = some [D.str ByteArray.empty] := by kernel_rfl
@[go_sem] theorem hasZero9 : hasZero Tryz.prog 9 = true := by kernel_rfl
@[go_sem] theorem isAggT21 : isAggT Tryz.prog 21 = false := by kernel_rfl
@[go_sem] theorem isOneT21 : isOneT Tryz.prog 21 = true := by kernel_rfl
@[go_sem] theorem elemT21 : elemT Tryz.prog 21 = none := by kernel_rfl
@[go_sem] theorem arrT21 : arrT Tryz.prog 21 = none := by kernel_rfl
@[go_sem] theorem intT21 : intT Tryz.prog 21 = some .i32 := by kernel_rfl
@[go_sem] theorem strT21 : strT Tryz.prog 21 = false := by kernel_rfl
@[go_sem] theorem boolT21 : boolT Tryz.prog 21 = false := by kernel_rfl
@[go_sem] theorem mapT21 : mapT Tryz.prog 21 = none := by kernel_rfl
@[go_sem] theorem sizeT21 : sizeT Tryz.prog 21 = 1 := by kernel_rfl
@[go_sem] theorem bytesT21 : bytesT Tryz.prog 21 = 4 := by kernel_rfl
@[go_sem] theorem zeroT21 : zeroT Tryz.prog 21 = some [D.int .i32 0] := by kernel_rfl
@[go_sem] theorem hasZero21 : hasZero Tryz.prog 21 = true := by kernel_rfl
@[go_sem] theorem isAggT23 : isAggT Tryz.prog 23 = true := by kernel_rfl
@[go_sem] theorem isOneT23 : isOneT Tryz.prog 23 = false := by kernel_rfl
@[go_sem] theorem elemT23 : elemT Tryz.prog 23 = none := by kernel_rfl
@[go_sem] theorem arrT23 : arrT Tryz.prog 23 = none := by kernel_rfl
@[go_sem] theorem intT23 : intT Tryz.prog 23 = none := by kernel_rfl
@[go_sem] theorem strT23 : strT Tryz.prog 23 = false := by kernel_rfl
@[go_sem] theorem boolT23 : boolT Tryz.prog 23 = false := by kernel_rfl
@[go_sem] theorem mapT23 : mapT Tryz.prog 23 = none := by kernel_rfl
@[go_sem] theorem sizeT23 : sizeT Tryz.prog 23 = 3 := by kernel_rfl
@[go_sem] theorem bytesT23 : bytesT Tryz.prog 23 = 24 := by kernel_rfl
@[go_sem] theorem fieldsOK23 : fieldsOK Tryz.prog 23 = true := by kernel_rfl
@[go_sem] theorem fieldT23_0 : fieldT Tryz.prog 23 0 = some (0, 3) := by kernel_rfl
@[go_sem] theorem fieldT23_1 : fieldT Tryz.prog 23 1 = some (1, 3) := by kernel_rfl
@[go_sem] theorem fieldT23_2 : fieldT Tryz.prog 23 2 = some (2, 3) := by kernel_rfl
@[go_sem] theorem zeroT23 : zeroT Tryz.prog 23 = some [D.int .i64 0, D.int .i64 0, D.int .i64 0] := by kernel_rfl
@[go_sem] theorem hasZero23 : hasZero Tryz.prog 23 = true := by kernel_rfl
@[go_sem] theorem isAggT24 : isAggT Tryz.prog 24 = false := by kernel_rfl
@[go_sem] theorem isOneT24 : isOneT Tryz.prog 24 = true := by kernel_rfl
@[go_sem] theorem elemT24 : elemT Tryz.prog 24 = some 51 := by kernel_rfl
@[go_sem] theorem arrT24 : arrT Tryz.prog 24 = none := by kernel_rfl
@[go_sem] theorem intT24 : intT Tryz.prog 24 = none := by kernel_rfl
@[go_sem] theorem strT24 : strT Tryz.prog 24 = false := by kernel_rfl
@[go_sem] theorem boolT24 : boolT Tryz.prog 24 = false := by kernel_rfl
@[go_sem] theorem mapT24 : mapT Tryz.prog 24 = none := by kernel_rfl
@[go_sem] theorem sizeT24 : sizeT Tryz.prog 24 = 1 := by kernel_rfl
@[go_sem] theorem bytesT24 : bytesT Tryz.prog 24 = 24 := by kernel_rfl
@[go_sem] theorem zeroT24 : zeroT Tryz.prog 24 = some [D.nil] := by kernel_rfl
@[go_sem] theorem hasZero24 : hasZero Tryz.prog 24 = true := by kernel_rfl
@[go_sem] theorem isAggT25 : isAggT Tryz.prog 25 = false := by kernel_rfl
@[go_sem] theorem isOneT25 : isOneT Tryz.prog 25 = true := by kernel_rfl
@[go_sem] theorem elemT25 : elemT Tryz.prog 25 = some 27 := by kernel_rfl
@[go_sem] theorem arrT25 : arrT Tryz.prog 25 = none := by kernel_rfl
@[go_sem] theorem intT25 : intT Tryz.prog 25 = none := by kernel_rfl
@[go_sem] theorem strT25 : strT Tryz.prog 25 = false := by kernel_rfl
@[go_sem] theorem boolT25 : boolT Tryz.prog 25 = false := by kernel_rfl
@[go_sem] theorem mapT25 : mapT Tryz.prog 25 = none := by kernel_rfl
@[go_sem] theorem sizeT25 : sizeT Tryz.prog 25 = 1 := by kernel_rfl
@[go_sem] theorem bytesT25 : bytesT Tryz.prog 25 = 24 := by kernel_rfl
@[go_sem] theorem zeroT25 : zeroT Tryz.prog 25 = some [D.nil] := by kernel_rfl
@[go_sem] theorem hasZero25 : hasZero Tryz.prog 25 = true := by kernel_rfl
@[go_sem] theorem isAggT27 : isAggT Tryz.prog 27 = true := by kernel_rfl
@[go_sem] theorem isOneT27 : isOneT Tryz.prog 27 = false := by kernel_rfl
@[go_sem] theorem elemT27 : elemT Tryz.prog 27 = none := by kernel_rfl
@[go_sem] theorem arrT27 : arrT Tryz.prog 27 = none := by kernel_rfl
@[go_sem] theorem intT27 : intT Tryz.prog 27 = none := by kernel_rfl
@[go_sem] theorem strT27 : strT Tryz.prog 27 = false := by kernel_rfl
@[go_sem] theorem boolT27 : boolT Tryz.prog 27 = false := by kernel_rfl
@[go_sem] theorem mapT27 : mapT Tryz.prog 27 = none := by kernel_rfl
@[go_sem] theorem sizeT27 : sizeT Tryz.prog 27 = 8 := by kernel_rfl
@[go_sem] theorem bytesT27 : bytesT Tryz.prog 27 = 120 := by kernel_rfl
@[go_sem] theorem fieldsOK27 : fieldsOK Tryz.prog 27 = true := by kernel_rfl
@[go_sem] theorem fieldT27_0 : fieldT Tryz.prog 27 0 = some (0, 23) := by kernel_rfl
@[go_sem] theorem fieldT27_1 : fieldT Tryz.prog 27 1 = some (3, 3) := by kernel_rfl
@[go_sem] theorem fieldT27_2 : fieldT Tryz.prog 27 2 = some (4, 9) := by kernel_rfl
@[go_sem] theorem fieldT27_3 : fieldT Tryz.prog 27 3 = some (5, 24) := by kernel_rfl
@[go_sem] theorem fieldT27_4 : fieldT Tryz.prog 27 4 = some (6, 24) := by kernel_rfl
@[go_sem] theorem fieldT27_5 : fieldT Tryz.prog 27 5 = some (7, 25) := by kernel_rfl
@[go_sem] theorem zeroT27 : zeroT Tryz.prog 27 = some [D.int .i64 0, D.int .i64 0, D.int .i64 0, D.int .i64 0, D.str ByteArray.empty, D.nil, D.nil, D.nil] := by kernel_rfl
@[go_sem] theorem hasZero27 : hasZero Tryz.prog 27 = true := by kernel_rfl
@[go_sem] theorem isAggT29 : isAggT Tryz.prog 29 = false := by kernel_rfl
@[go_sem] theorem isOneT29 : isOneT Tryz.prog 29 = true := by kernel_rfl
@[go_sem] theorem elemT29 : elemT Tryz.prog 29 = none := by kernel_rfl
@[go_sem] theorem arrT29 : arrT Tryz.prog 29 = none := by kernel_rfl
@[go_sem] theorem intT29 : intT Tryz.prog 29 = none := by kernel_rfl
@[go_sem] theorem strT29 : strT Tryz.prog 29 = false := by kernel_rfl
@[go_sem] theorem boolT29 : boolT Tryz.prog 29 = false := by kernel_rfl
@[go_sem] theorem mapT29 : mapT Tryz.prog 29 = none := by kernel_rfl
@[go_sem] theorem sizeT29 : sizeT Tryz.prog 29 = 1 := by kernel_rfl
@[go_sem] theorem bytesT29 : bytesT Tryz.prog 29 = 8 := by kernel_rfl
@[go_sem] theorem zeroT29 : zeroT Tryz.prog 29 = some [D.nfun] := by kernel_rfl
@[go_sem] theorem hasZero29 : hasZero Tryz.prog 29 = true := by kernel_rfl
@[go_sem] theorem isAggT30 : isAggT Tryz.prog 30 = false := by kernel_rfl
@[go_sem] theorem isOneT30 : isOneT Tryz.prog 30 = true := by kernel_rfl
@[go_sem] theorem elemT30 : elemT Tryz.prog 30 = none := by kernel_rfl
@[go_sem] theorem arrT30 : arrT Tryz.prog 30 = none := by kernel_rfl
@[go_sem] theorem intT30 : intT Tryz.prog 30 = some .i64 := by kernel_rfl
@[go_sem] theorem strT30 : strT Tryz.prog 30 = false := by kernel_rfl
@[go_sem] theorem boolT30 : boolT Tryz.prog 30 = false := by kernel_rfl
@[go_sem] theorem mapT30 : mapT Tryz.prog 30 = none := by kernel_rfl
@[go_sem] theorem sizeT30 : sizeT Tryz.prog 30 = 1 := by kernel_rfl
@[go_sem] theorem bytesT30 : bytesT Tryz.prog 30 = 8 := by kernel_rfl
@[go_sem] theorem zeroT30 : zeroT Tryz.prog 30 = some [D.int .i64 0] := by kernel_rfl
@[go_sem] theorem hasZero30 : hasZero Tryz.prog 30 = true := by kernel_rfl
@[go_sem] theorem isAggT49 : isAggT Tryz.prog 49 = true := by kernel_rfl
@[go_sem] theorem isOneT49 : isOneT Tryz.prog 49 = false := by kernel_rfl
@[go_sem] theorem elemT49 : elemT Tryz.prog 49 = none := by kernel_rfl
@[go_sem] theorem arrT49 : arrT Tryz.prog 49 = none := by kernel_rfl
@[go_sem] theorem intT49 : intT Tryz.prog 49 = none := by kernel_rfl
@[go_sem] theorem strT49 : strT Tryz.prog 49 = false := by kernel_rfl
@[go_sem] theorem boolT49 : boolT Tryz.prog 49 = false := by kernel_rfl
@[go_sem] theorem mapT49 : mapT Tryz.prog 49 = none := by kernel_rfl
@[go_sem] theorem sizeT49 : sizeT Tryz.prog 49 = 3 := by kernel_rfl
@[go_sem] theorem bytesT49 : bytesT Tryz.prog 49 = 24 := by kernel_rfl
@[go_sem] theorem fieldsOK49 : fieldsOK Tryz.prog 49 = true := by kernel_rfl
@[go_sem] theorem fieldT49_0 : fieldT Tryz.prog 49 0 = some (0, 3) := by kernel_rfl
@[go_sem] theorem fieldT49_1 : fieldT Tryz.prog 49 1 = some (1, 3) := by kernel_rfl
@[go_sem] theorem fieldT49_2 : fieldT Tryz.prog 49 2 = some (2, 3) := by kernel_rfl
@[go_sem] theorem zeroT49 : zeroT Tryz.prog 49 = some [D.int .i64 0, D.int .i64 0, D.int .i64 0] := by kernel_rfl
@[go_sem] theorem hasZero49 : hasZero Tryz.prog 49 = true := by kernel_rfl
@[go_sem] theorem isAggT51 : isAggT Tryz.prog 51 = true := by kernel_rfl
@[go_sem] theorem isOneT51 : isOneT Tryz.prog 51 = false := by kernel_rfl
@[go_sem] theorem elemT51 : elemT Tryz.prog 51 = none := by kernel_rfl
@[go_sem] theorem arrT51 : arrT Tryz.prog 51 = none := by kernel_rfl
@[go_sem] theorem intT51 : intT Tryz.prog 51 = none := by kernel_rfl
@[go_sem] theorem strT51 : strT Tryz.prog 51 = false := by kernel_rfl
@[go_sem] theorem boolT51 : boolT Tryz.prog 51 = false := by kernel_rfl
@[go_sem] theorem mapT51 : mapT Tryz.prog 51 = none := by kernel_rfl
@[go_sem] theorem sizeT51 : sizeT Tryz.prog 51 = 4 := by kernel_rfl
@[go_sem] theorem bytesT51 : bytesT Tryz.prog 51 = 40 := by kernel_rfl
@[go_sem] theorem fieldsOK51 : fieldsOK Tryz.prog 51 = true := by kernel_rfl
@[go_sem] theorem fieldT51_0 : fieldT Tryz.prog 51 0 = some (0, 9) := by kernel_rfl
@[go_sem] theorem fieldT51_1 : fieldT Tryz.prog 51 1 = some (1, 49) := by kernel_rfl
@[go_sem] theorem zeroT51 : zeroT Tryz.prog 51 = some [D.str ByteArray.empty, D.int .i64 0, D.int .i64 0, D.int .i64 0] := by kernel_rfl
@[go_sem] theorem hasZero51 : hasZero Tryz.prog 51 = true := by kernel_rfl
@[go_sem] theorem isAggT58 : isAggT Tryz.prog 58 = false := by kernel_rfl
@[go_sem] theorem isOneT58 : isOneT Tryz.prog 58 = true := by kernel_rfl
@[go_sem] theorem elemT58 : elemT Tryz.prog 58 = none := by kernel_rfl
@[go_sem] theorem arrT58 : arrT Tryz.prog 58 = none := by kernel_rfl
@[go_sem] theorem intT58 : intT Tryz.prog 58 = none := by kernel_rfl
@[go_sem] theorem strT58 : strT Tryz.prog 58 = false := by kernel_rfl
@[go_sem] theorem boolT58 : boolT Tryz.prog 58 = false := by kernel_rfl
@[go_sem] theorem mapT58 : mapT Tryz.prog 58 = none := by kernel_rfl
@[go_sem] theorem sizeT58 : sizeT Tryz.prog 58 = 1 := by kernel_rfl
@[go_sem] theorem bytesT58 : bytesT Tryz.prog 58 = 8 := by kernel_rfl
@[go_sem] theorem zeroT58 : zeroT Tryz.prog 58 = some [D.nfun] := by kernel_rfl
@[go_sem] theorem hasZero58 : hasZero Tryz.prog 58 = true := by kernel_rfl
@[go_sem] theorem isAggT59 : isAggT Tryz.prog 59 = false := by kernel_rfl
@[go_sem] theorem isOneT59 : isOneT Tryz.prog 59 = true := by kernel_rfl
@[go_sem] theorem elemT59 : elemT Tryz.prog 59 = none := by kernel_rfl
@[go_sem] theorem arrT59 : arrT Tryz.prog 59 = none := by kernel_rfl
@[go_sem] theorem intT59 : intT Tryz.prog 59 = none := by kernel_rfl
@[go_sem] theorem strT59 : strT Tryz.prog 59 = false := by kernel_rfl
@[go_sem] theorem boolT59 : boolT Tryz.prog 59 = false := by kernel_rfl
@[go_sem] theorem mapT59 : mapT Tryz.prog 59 = some (23, 4) := by kernel_rfl
@[go_sem] theorem sizeT59 : sizeT Tryz.prog 59 = 1 := by kernel_rfl
@[go_sem] theorem bytesT59 : bytesT Tryz.prog 59 = 8 := by kernel_rfl
@[go_sem] theorem zeroT59 : zeroT Tryz.prog 59 = some [D.nmp] := by kernel_rfl
@[go_sem] theorem hasZero59 : hasZero Tryz.prog 59 = true := by kernel_rfl
@[go_sem] theorem isAggT60 : isAggT Tryz.prog 60 = false := by kernel_rfl
@[go_sem] theorem isOneT60 : isOneT Tryz.prog 60 = true := by kernel_rfl
@[go_sem] theorem elemT60 : elemT Tryz.prog 60 = some 23 := by kernel_rfl
@[go_sem] theorem arrT60 : arrT Tryz.prog 60 = none := by kernel_rfl
@[go_sem] theorem intT60 : intT Tryz.prog 60 = none := by kernel_rfl
@[go_sem] theorem strT60 : strT Tryz.prog 60 = false := by kernel_rfl
@[go_sem] theorem boolT60 : boolT Tryz.prog 60 = false := by kernel_rfl
@[go_sem] theorem mapT60 : mapT Tryz.prog 60 = none := by kernel_rfl
@[go_sem] theorem sizeT60 : sizeT Tryz.prog 60 = 1 := by kernel_rfl
@[go_sem] theorem bytesT60 : bytesT Tryz.prog 60 = 24 := by kernel_rfl
@[go_sem] theorem zeroT60 : zeroT Tryz.prog 60 = some [D.nil] := by kernel_rfl
@[go_sem] theorem hasZero60 : hasZero Tryz.prog 60 = true := by kernel_rfl
@[go_sem] theorem isAggT66 : isAggT Tryz.prog 66 = false := by kernel_rfl
@[go_sem] theorem isOneT66 : isOneT Tryz.prog 66 = true := by kernel_rfl
@[go_sem] theorem elemT66 : elemT Tryz.prog 66 = none := by kernel_rfl
@[go_sem] theorem arrT66 : arrT Tryz.prog 66 = none := by kernel_rfl
@[go_sem] theorem intT66 : intT Tryz.prog 66 = none := by kernel_rfl
@[go_sem] theorem strT66 : strT Tryz.prog 66 = false := by kernel_rfl
@[go_sem] theorem boolT66 : boolT Tryz.prog 66 = false := by kernel_rfl
@[go_sem] theorem mapT66 : mapT Tryz.prog 66 = none := by kernel_rfl
@[go_sem] theorem sizeT66 : sizeT Tryz.prog 66 = 1 := by kernel_rfl
@[go_sem] theorem bytesT66 : bytesT Tryz.prog 66 = 8 := by kernel_rfl
@[go_sem] theorem zeroT66 : zeroT Tryz.prog 66 = some [D.nfun] := by kernel_rfl
@[go_sem] theorem hasZero66 : hasZero Tryz.prog 66 = true := by kernel_rfl
@[go_sem] theorem isAggT79 : isAggT Tryz.prog 79 = true := by kernel_rfl
@[go_sem] theorem isOneT79 : isOneT Tryz.prog 79 = false := by kernel_rfl
@[go_sem] theorem elemT79 : elemT Tryz.prog 79 = none := by kernel_rfl
@[go_sem] theorem arrT79 : arrT Tryz.prog 79 = none := by kernel_rfl
@[go_sem] theorem intT79 : intT Tryz.prog 79 = none := by kernel_rfl
@[go_sem] theorem strT79 : strT Tryz.prog 79 = false := by kernel_rfl
@[go_sem] theorem boolT79 : boolT Tryz.prog 79 = false := by kernel_rfl
@[go_sem] theorem mapT79 : mapT Tryz.prog 79 = none := by kernel_rfl
@[go_sem] theorem sizeT79 : sizeT Tryz.prog 79 = 2 := by kernel_rfl
@[go_sem] theorem bytesT79 : bytesT Tryz.prog 79 = 16 := by kernel_rfl
@[go_sem] theorem fieldsOK79 : fieldsOK Tryz.prog 79 = true := by kernel_rfl
@[go_sem] theorem fieldT79_0 : fieldT Tryz.prog 79 0 = some (0, 29) := by kernel_rfl
@[go_sem] theorem fieldT79_1 : fieldT Tryz.prog 79 1 = some (1, 30) := by kernel_rfl
@[go_sem] theorem zeroT79 : zeroT Tryz.prog 79 = some [D.nfun, D.int .i64 0] := by kernel_rfl
@[go_sem] theorem hasZero79 : hasZero Tryz.prog 79 = true := by kernel_rfl
@[go_sem] theorem isAggT82 : isAggT Tryz.prog 82 = false := by kernel_rfl
@[go_sem] theorem isOneT82 : isOneT Tryz.prog 82 = true := by kernel_rfl
@[go_sem] theorem elemT82 : elemT Tryz.prog 82 = none := by kernel_rfl
@[go_sem] theorem arrT82 : arrT Tryz.prog 82 = none := by kernel_rfl
@[go_sem] theorem intT82 : intT Tryz.prog 82 = none := by kernel_rfl
@[go_sem] theorem strT82 : strT Tryz.prog 82 = false := by kernel_rfl
@[go_sem] theorem boolT82 : boolT Tryz.prog 82 = false := by kernel_rfl
@[go_sem] theorem mapT82 : mapT Tryz.prog 82 = none := by kernel_rfl
@[go_sem] theorem sizeT82 : sizeT Tryz.prog 82 = 1 := by kernel_rfl
@[go_sem] theorem bytesT82 : bytesT Tryz.prog 82 = 8 := by kernel_rfl
@[go_sem] theorem zeroT82 : zeroT Tryz.prog 82 = some [D.nfun] := by kernel_rfl
@[go_sem] theorem hasZero82 : hasZero Tryz.prog 82 = true := by kernel_rfl
@[go_sem] theorem isAggT89 : isAggT Tryz.prog 89 = false := by kernel_rfl
@[go_sem] theorem isOneT89 : isOneT Tryz.prog 89 = true := by kernel_rfl
@[go_sem] theorem elemT89 : elemT Tryz.prog 89 = none := by kernel_rfl
@[go_sem] theorem arrT89 : arrT Tryz.prog 89 = none := by kernel_rfl
@[go_sem] theorem intT89 : intT Tryz.prog 89 = none := by kernel_rfl
@[go_sem] theorem strT89 : strT Tryz.prog 89 = false := by kernel_rfl
@[go_sem] theorem boolT89 : boolT Tryz.prog 89 = false := by kernel_rfl
@[go_sem] theorem mapT89 : mapT Tryz.prog 89 = none := by kernel_rfl
@[go_sem] theorem sizeT89 : sizeT Tryz.prog 89 = 1 := by kernel_rfl
@[go_sem] theorem bytesT89 : bytesT Tryz.prog 89 = 8 := by kernel_rfl
@[go_sem] theorem zeroT89 : zeroT Tryz.prog 89 = some [D.nfun] := by kernel_rfl
@[go_sem] theorem hasZero89 : hasZero Tryz.prog 89 = true := by kernel_rfl
@[go_sem] theorem isAggT95 : isAggT Tryz.prog 95 = false := by kernel_rfl
@[go_sem] theorem isOneT95 : isOneT Tryz.prog 95 = true := by kernel_rfl
@[go_sem] theorem elemT95 : elemT Tryz.prog 95 = some 79 := by kernel_rfl
@[go_sem] theorem arrT95 : arrT Tryz.prog 95 = none := by kernel_rfl
@[go_sem] theorem intT95 : intT Tryz.prog 95 = none := by kernel_rfl
@[go_sem] theorem strT95 : strT Tryz.prog 95 = false := by kernel_rfl
@[go_sem] theorem boolT95 : boolT Tryz.prog 95 = false := by kernel_rfl
@[go_sem] theorem mapT95 : mapT Tryz.prog 95 = none := by kernel_rfl
@[go_sem] theorem sizeT95 : sizeT Tryz.prog 95 = 1 := by kernel_rfl
@[go_sem] theorem bytesT95 : bytesT Tryz.prog 95 = 24 := by kernel_rfl
@[go_sem] theorem zeroT95 : zeroT Tryz.prog 95 = some [D.nil] := by kernel_rfl
@[go_sem] theorem hasZero95 : hasZero Tryz.prog 95 = true := by kernel_rfl
@[go_sem] theorem isAggT100 : isAggT Tryz.prog 100 = false := by kernel_rfl
@[go_sem] theorem isOneT100 : isOneT Tryz.prog 100 = true := by kernel_rfl
@[go_sem] theorem elemT100 : elemT Tryz.prog 100 = none := by kernel_rfl
@[go_sem] theorem arrT100 : arrT Tryz.prog 100 = none := by kernel_rfl
@[go_sem] theorem intT100 : intT Tryz.prog 100 = none := by kernel_rfl
@[go_sem] theorem strT100 : strT Tryz.prog 100 = false := by kernel_rfl
@[go_sem] theorem boolT100 : boolT Tryz.prog 100 = false := by kernel_rfl
@[go_sem] theorem mapT100 : mapT Tryz.prog 100 = none := by kernel_rfl
@[go_sem] theorem sizeT100 : sizeT Tryz.prog 100 = 1 := by kernel_rfl
@[go_sem] theorem bytesT100 : bytesT Tryz.prog 100 = 8 := by kernel_rfl
@[go_sem] theorem zeroT100 : zeroT Tryz.prog 100 = some [D.nfun] := by kernel_rfl
@[go_sem] theorem hasZero100 : hasZero Tryz.prog 100 = true := by kernel_rfl
@[go_sem] theorem isAggT106 : isAggT Tryz.prog 106 = false := by kernel_rfl
@[go_sem] theorem isOneT106 : isOneT Tryz.prog 106 = true := by kernel_rfl
@[go_sem] theorem elemT106 : elemT Tryz.prog 106 = none := by kernel_rfl
@[go_sem] theorem arrT106 : arrT Tryz.prog 106 = none := by kernel_rfl
@[go_sem] theorem intT106 : intT Tryz.prog 106 = none := by kernel_rfl
@[go_sem] theorem strT106 : strT Tryz.prog 106 = false := by kernel_rfl
@[go_sem] theorem boolT106 : boolT Tryz.prog 106 = false := by kernel_rfl
@[go_sem] theorem mapT106 : mapT Tryz.prog 106 = none := by kernel_rfl
@[go_sem] theorem sizeT106 : sizeT Tryz.prog 106 = 1 := by kernel_rfl
@[go_sem] theorem bytesT106 : bytesT Tryz.prog 106 = 8 := by kernel_rfl
@[go_sem] theorem zeroT106 : zeroT Tryz.prog 106 = some [D.nfun] := by kernel_rfl
@[go_sem] theorem hasZero106 : hasZero Tryz.prog 106 = true := by kernel_rfl
@[go_sem] theorem isAggT109 : isAggT Tryz.prog 109 = false := by kernel_rfl
@[go_sem] theorem isOneT109 : isOneT Tryz.prog 109 = true := by kernel_rfl
@[go_sem] theorem elemT109 : elemT Tryz.prog 109 = some 3 := by kernel_rfl
@[go_sem] theorem arrT109 : arrT Tryz.prog 109 = none := by kernel_rfl
@[go_sem] theorem intT109 : intT Tryz.prog 109 = none := by kernel_rfl
@[go_sem] theorem strT109 : strT Tryz.prog 109 = false := by kernel_rfl
@[go_sem] theorem boolT109 : boolT Tryz.prog 109 = false := by kernel_rfl
@[go_sem] theorem mapT109 : mapT Tryz.prog 109 = none := by kernel_rfl
@[go_sem] theorem sizeT109 : sizeT Tryz.prog 109 = 1 := by kernel_rfl
@[go_sem] theorem bytesT109 : bytesT Tryz.prog 109 = 24 := by kernel_rfl
@[go_sem] theorem zeroT109 : zeroT Tryz.prog 109 = some [D.nil] := by kernel_rfl
@[go_sem] theorem hasZero109 : hasZero Tryz.prog 109 = true := by kernel_rfl
@[go_sem] theorem isAggT110 : isAggT Tryz.prog 110 = true := by kernel_rfl
@[go_sem] theorem isOneT110 : isOneT Tryz.prog 110 = false := by kernel_rfl
@[go_sem] theorem elemT110 : elemT Tryz.prog 110 = none := by kernel_rfl
@[go_sem] theorem arrT110 : arrT Tryz.prog 110 = some (8, 109) := by kernel_rfl
@[go_sem] theorem intT110 : intT Tryz.prog 110 = none := by kernel_rfl
@[go_sem] theorem strT110 : strT Tryz.prog 110 = false := by kernel_rfl
@[go_sem] theorem boolT110 : boolT Tryz.prog 110 = false := by kernel_rfl
@[go_sem] theorem mapT110 : mapT Tryz.prog 110 = none := by kernel_rfl
@[go_sem] theorem sizeT110 : sizeT Tryz.prog 110 = 8 := by kernel_rfl
@[go_sem] theorem bytesT110 : bytesT Tryz.prog 110 = 192 := by kernel_rfl
@[go_sem] theorem zeroT110 : zeroT Tryz.prog 110 = some [D.nil, D.nil, D.nil, D.nil, D.nil, D.nil, D.nil, D.nil] := by kernel_rfl
@[go_sem] theorem hasZero110 : hasZero Tryz.prog 110 = true := by kernel_rfl
@[go_sem] theorem under110 : Tryz.prog.underlying 110 = some (.array 8 109) := by kernel_rfl
@[go_sem] theorem isAggT116 : isAggT Tryz.prog 116 = false := by kernel_rfl
@[go_sem] theorem isOneT116 : isOneT Tryz.prog 116 = true := by kernel_rfl
@[go_sem] theorem elemT116 : elemT Tryz.prog 116 = some 9 := by kernel_rfl
@[go_sem] theorem arrT116 : arrT Tryz.prog 116 = none := by kernel_rfl
@[go_sem] theorem intT116 : intT Tryz.prog 116 = none := by kernel_rfl
@[go_sem] theorem strT116 : strT Tryz.prog 116 = false := by kernel_rfl
@[go_sem] theorem boolT116 : boolT Tryz.prog 116 = false := by kernel_rfl
@[go_sem] theorem mapT116 : mapT Tryz.prog 116 = none := by kernel_rfl
@[go_sem] theorem sizeT116 : sizeT Tryz.prog 116 = 1 := by kernel_rfl
@[go_sem] theorem bytesT116 : bytesT Tryz.prog 116 = 24 := by kernel_rfl
@[go_sem] theorem zeroT116 : zeroT Tryz.prog 116 = some [D.nil] := by kernel_rfl
@[go_sem] theorem hasZero116 : hasZero Tryz.prog 116 = true := by kernel_rfl
@[go_sem] theorem isAggT121 : isAggT Tryz.prog 121 = false := by kernel_rfl
@[go_sem] theorem isOneT121 : isOneT Tryz.prog 121 = true := by kernel_rfl
@[go_sem] theorem elemT121 : elemT Tryz.prog 121 = none := by kernel_rfl
@[go_sem] theorem arrT121 : arrT Tryz.prog 121 = none := by kernel_rfl
@[go_sem] theorem intT121 : intT Tryz.prog 121 = none := by kernel_rfl
@[go_sem] theorem strT121 : strT Tryz.prog 121 = false := by kernel_rfl
@[go_sem] theorem boolT121 : boolT Tryz.prog 121 = false := by kernel_rfl
@[go_sem] theorem mapT121 : mapT Tryz.prog 121 = some (123, 4) := by kernel_rfl
@[go_sem] theorem sizeT121 : sizeT Tryz.prog 121 = 1 := by kernel_rfl
@[go_sem] theorem bytesT121 : bytesT Tryz.prog 121 = 8 := by kernel_rfl
@[go_sem] theorem zeroT121 : zeroT Tryz.prog 121 = some [D.nmp] := by kernel_rfl
@[go_sem] theorem hasZero121 : hasZero Tryz.prog 121 = true := by kernel_rfl
@[go_sem] theorem isAggT123 : isAggT Tryz.prog 123 = true := by kernel_rfl
@[go_sem] theorem isOneT123 : isOneT Tryz.prog 123 = false := by kernel_rfl
@[go_sem] theorem elemT123 : elemT Tryz.prog 123 = none := by kernel_rfl
@[go_sem] theorem arrT123 : arrT Tryz.prog 123 = none := by kernel_rfl
@[go_sem] theorem intT123 : intT Tryz.prog 123 = none := by kernel_rfl
@[go_sem] theorem strT123 : strT Tryz.prog 123 = false := by kernel_rfl
@[go_sem] theorem boolT123 : boolT Tryz.prog 123 = false := by kernel_rfl
@[go_sem] theorem mapT123 : mapT Tryz.prog 123 = none := by kernel_rfl
@[go_sem] theorem sizeT123 : sizeT Tryz.prog 123 = 2 := by kernel_rfl
@[go_sem] theorem bytesT123 : bytesT Tryz.prog 123 = 24 := by kernel_rfl
@[go_sem] theorem fieldsOK123 : fieldsOK Tryz.prog 123 = true := by kernel_rfl
@[go_sem] theorem fieldT123_0 : fieldT Tryz.prog 123 0 = some (0, 3) := by kernel_rfl
@[go_sem] theorem fieldT123_1 : fieldT Tryz.prog 123 1 = some (1, 9) := by kernel_rfl
@[go_sem] theorem zeroT123 : zeroT Tryz.prog 123 = some [D.int .i64 0, D.str ByteArray.empty] := by kernel_rfl
@[go_sem] theorem hasZero123 : hasZero Tryz.prog 123 = true := by kernel_rfl
@[go_sem] theorem isAggT126 : isAggT Tryz.prog 126 = false := by kernel_rfl
@[go_sem] theorem isOneT126 : isOneT Tryz.prog 126 = true := by kernel_rfl
@[go_sem] theorem elemT126 : elemT Tryz.prog 126 = none := by kernel_rfl
@[go_sem] theorem arrT126 : arrT Tryz.prog 126 = none := by kernel_rfl
@[go_sem] theorem intT126 : intT Tryz.prog 126 = none := by kernel_rfl
@[go_sem] theorem strT126 : strT Tryz.prog 126 = false := by kernel_rfl
@[go_sem] theorem boolT126 : boolT Tryz.prog 126 = false := by kernel_rfl
@[go_sem] theorem mapT126 : mapT Tryz.prog 126 = none := by kernel_rfl
@[go_sem] theorem sizeT126 : sizeT Tryz.prog 126 = 1 := by kernel_rfl
@[go_sem] theorem bytesT126 : bytesT Tryz.prog 126 = 8 := by kernel_rfl
@[go_sem] theorem zeroT126 : zeroT Tryz.prog 126 = some [D.nfun] := by kernel_rfl
@[go_sem] theorem hasZero126 : hasZero Tryz.prog 126 = true := by kernel_rfl
@[go_sem] theorem isAggT128 : isAggT Tryz.prog 128 = false := by kernel_rfl
@[go_sem] theorem isOneT128 : isOneT Tryz.prog 128 = true := by kernel_rfl
@[go_sem] theorem elemT128 : elemT Tryz.prog 128 = some 5 := by kernel_rfl
@[go_sem] theorem arrT128 : arrT Tryz.prog 128 = none := by kernel_rfl
@[go_sem] theorem intT128 : intT Tryz.prog 128 = none := by kernel_rfl
@[go_sem] theorem strT128 : strT Tryz.prog 128 = false := by kernel_rfl
@[go_sem] theorem boolT128 : boolT Tryz.prog 128 = false := by kernel_rfl
@[go_sem] theorem mapT128 : mapT Tryz.prog 128 = none := by kernel_rfl
@[go_sem] theorem sizeT128 : sizeT Tryz.prog 128 = 1 := by kernel_rfl
@[go_sem] theorem bytesT128 : bytesT Tryz.prog 128 = 24 := by kernel_rfl
@[go_sem] theorem zeroT128 : zeroT Tryz.prog 128 = some [D.nil] := by kernel_rfl
@[go_sem] theorem hasZero128 : hasZero Tryz.prog 128 = true := by kernel_rfl
@[go_sem] theorem isAggT130 : isAggT Tryz.prog 130 = true := by kernel_rfl
@[go_sem] theorem isOneT130 : isOneT Tryz.prog 130 = false := by kernel_rfl
@[go_sem] theorem elemT130 : elemT Tryz.prog 130 = none := by kernel_rfl
@[go_sem] theorem arrT130 : arrT Tryz.prog 130 = some (8, 9) := by kernel_rfl
@[go_sem] theorem intT130 : intT Tryz.prog 130 = none := by kernel_rfl
@[go_sem] theorem strT130 : strT Tryz.prog 130 = false := by kernel_rfl
@[go_sem] theorem boolT130 : boolT Tryz.prog 130 = false := by kernel_rfl
@[go_sem] theorem mapT130 : mapT Tryz.prog 130 = none := by kernel_rfl
@[go_sem] theorem sizeT130 : sizeT Tryz.prog 130 = 8 := by kernel_rfl
@[go_sem] theorem bytesT130 : bytesT Tryz.prog 130 = 128 := by kernel_rfl
@[go_sem] theorem zeroT130 : zeroT Tryz.prog 130 = some [D.str ByteArray.empty, D.str ByteArray.empty, D.str ByteArray.empty, D.str ByteArray.empty, D.str ByteArray.empty, D.str ByteArray.empty, D.str ByteArray.empty, D.str ByteArray.empty] := by kernel_rfl
@[go_sem] theorem hasZero130 : hasZero Tryz.prog 130 = true := by kernel_rfl
@[go_sem] theorem under130 : Tryz.prog.underlying 130 = some (.array 8 9) := by kernel_rfl
@[go_sem] theorem keyT23 : keyT Tryz.prog 23 = true := by kernel_rfl
@[go_sem] theorem zeroD4 : zeroD Tryz.prog 4 = some (D.bool false) := by kernel_rfl
@[go_sem] theorem keyT123 : keyT Tryz.prog 123 = true := by kernel_rfl
theorem eqD_struct {P : Program} {d : Nat} {t : TypeId} {fs : Array Field} {xs ys : List D} (hu : P.underlying t = some (.struct fs)) (hs : P.stoodInHeld t = false) : eqD P (d + 1) t (.agg xs) (.agg ys) = eqFieldsD (eqD P d) P xs ys fs.toList := by
 simp only [eqD, hu, hs, if_true]
theorem eqD_int {P : Program} {d : Nat} {t : TypeId} {k : IntKind} {a b : Int} (hu : P.underlying t = some (.int k)) : eqD P (d + 1) t (.int k a) (.int k b) = some (decide (a = b)) := by
 simp only [eqD, hu, if_true, Option.some.injEq]; by_cases h : a = b <;> simp [h]
theorem eqD_str {P : Program} {d : Nat} {t : TypeId} {a b : ByteArray} (hu : P.underlying t = some .string) : eqD P (d + 1) t (.str a) (.str b) = some (decide (a = b)) := by
 simp only [eqD, hu]
theorem guardT22 : Tryz.prog.eqGuardType Tryz.prog.depth 22 = false := by kernel_rfl
theorem eqT22 (d : Nat) (a0 b0 : Int) (a1 b1 : Int) (a2 b2 : Int) : eqD Tryz.prog (d + 2) 22 (.agg [.int .i64 a0, .int .i64 a1, .int .i64 a2]) (.agg [.int .i64 b0, .int .i64 b1, .int .i64 b2]) = some (decide (a0 = b0) && decide (a1 = b1) && decide (a2 = b2)) := by
 rw [eqD_struct Tryz.underlying22 (by kernel_rfl)]
 simp only [eqFieldsD, takeD, List.getElem?_cons_zero, List.getElem?_cons_succ, List.drop_succ_cons, List.drop_zero, List.take_succ_cons, List.take_zero, List.length_cons, List.length_nil, Nat.reduceAdd, Nat.reduceLeDiff, if_true, if_false, Bool.false_eq_true, ne_eq, String.reduceEq, not_false_eq_true, decide_eq_true_eq, isAggT3, isOneT3, sizeT3, eqD_int Tryz.underlying3]
 (repeat' split) <;> simp_all
@[go_sem] theorem eqU22 (a0 b0 : Int) (a1 b1 : Int) (a2 b2 : Int) : eqD Tryz.prog 8 22 (.agg [.int .i64 a0, .int .i64 a1, .int .i64 a2]) (.agg [.int .i64 b0, .int .i64 b1, .int .i64 b2]) = some (decide (a0 = b0) && decide (a1 = b1) && decide (a2 = b2)) := eqT22 6 a0 b0 a1 b1 a2 b2
attribute [go_sem] guardT22
theorem guardT23 : Tryz.prog.eqGuardType Tryz.prog.depth 23 = false := by kernel_rfl
theorem eqT23 (d : Nat) (a0 b0 : Int) (a1 b1 : Int) (a2 b2 : Int) : eqD Tryz.prog (d + 2) 23 (.agg [.int .i64 a0, .int .i64 a1, .int .i64 a2]) (.agg [.int .i64 b0, .int .i64 b1, .int .i64 b2]) = some (decide (a0 = b0) && decide (a1 = b1) && decide (a2 = b2)) := by
 rw [eqD_struct Tryz.underlying23 (by kernel_rfl)]
 simp only [eqFieldsD, takeD, List.getElem?_cons_zero, List.getElem?_cons_succ, List.drop_succ_cons, List.drop_zero, List.take_succ_cons, List.take_zero, List.length_cons, List.length_nil, Nat.reduceAdd, Nat.reduceLeDiff, if_true, if_false, Bool.false_eq_true, ne_eq, String.reduceEq, not_false_eq_true, decide_eq_true_eq, isAggT3, isOneT3, sizeT3, eqD_int Tryz.underlying3]
 (repeat' split) <;> simp_all
@[go_sem] theorem eqU23 (a0 b0 : Int) (a1 b1 : Int) (a2 b2 : Int) : eqD Tryz.prog 8 23 (.agg [.int .i64 a0, .int .i64 a1, .int .i64 a2]) (.agg [.int .i64 b0, .int .i64 b1, .int .i64 b2]) = some (decide (a0 = b0) && decide (a1 = b1) && decide (a2 = b2)) := eqT23 6 a0 b0 a1 b1 a2 b2
attribute [go_sem] guardT23
theorem guardT48 : Tryz.prog.eqGuardType Tryz.prog.depth 48 = false := by kernel_rfl
theorem eqT48 (d : Nat) (a0 b0 : Int) (a1 b1 : Int) (a2 b2 : Int) : eqD Tryz.prog (d + 2) 48 (.agg [.int .i64 a0, .int .i64 a1, .int .i64 a2]) (.agg [.int .i64 b0, .int .i64 b1, .int .i64 b2]) = some (decide (a0 = b0) && decide (a1 = b1) && decide (a2 = b2)) := by
 rw [eqD_struct Tryz.underlying48 (by kernel_rfl)]
 simp only [eqFieldsD, takeD, List.getElem?_cons_zero, List.getElem?_cons_succ, List.drop_succ_cons, List.drop_zero, List.take_succ_cons, List.take_zero, List.length_cons, List.length_nil, Nat.reduceAdd, Nat.reduceLeDiff, if_true, if_false, Bool.false_eq_true, ne_eq, String.reduceEq, not_false_eq_true, decide_eq_true_eq, isAggT3, isOneT3, sizeT3, eqD_int Tryz.underlying3]
 (repeat' split) <;> simp_all
@[go_sem] theorem eqU48 (a0 b0 : Int) (a1 b1 : Int) (a2 b2 : Int) : eqD Tryz.prog 8 48 (.agg [.int .i64 a0, .int .i64 a1, .int .i64 a2]) (.agg [.int .i64 b0, .int .i64 b1, .int .i64 b2]) = some (decide (a0 = b0) && decide (a1 = b1) && decide (a2 = b2)) := eqT48 6 a0 b0 a1 b1 a2 b2
attribute [go_sem] guardT48
theorem guardT49 : Tryz.prog.eqGuardType Tryz.prog.depth 49 = false := by kernel_rfl
theorem eqT49 (d : Nat) (a0 b0 : Int) (a1 b1 : Int) (a2 b2 : Int) : eqD Tryz.prog (d + 2) 49 (.agg [.int .i64 a0, .int .i64 a1, .int .i64 a2]) (.agg [.int .i64 b0, .int .i64 b1, .int .i64 b2]) = some (decide (a0 = b0) && decide (a1 = b1) && decide (a2 = b2)) := by
 rw [eqD_struct Tryz.underlying49 (by kernel_rfl)]
 simp only [eqFieldsD, takeD, List.getElem?_cons_zero, List.getElem?_cons_succ, List.drop_succ_cons, List.drop_zero, List.take_succ_cons, List.take_zero, List.length_cons, List.length_nil, Nat.reduceAdd, Nat.reduceLeDiff, if_true, if_false, Bool.false_eq_true, ne_eq, String.reduceEq, not_false_eq_true, decide_eq_true_eq, isAggT3, isOneT3, sizeT3, eqD_int Tryz.underlying3]
 (repeat' split) <;> simp_all
@[go_sem] theorem eqU49 (a0 b0 : Int) (a1 b1 : Int) (a2 b2 : Int) : eqD Tryz.prog 8 49 (.agg [.int .i64 a0, .int .i64 a1, .int .i64 a2]) (.agg [.int .i64 b0, .int .i64 b1, .int .i64 b2]) = some (decide (a0 = b0) && decide (a1 = b1) && decide (a2 = b2)) := eqT49 6 a0 b0 a1 b1 a2 b2
attribute [go_sem] guardT49
theorem guardT50 : Tryz.prog.eqGuardType Tryz.prog.depth 50 = false := by kernel_rfl
theorem eqT50 (d : Nat) (a0 b0 : ByteArray) (a1 b1 : Int) (a2 b2 : Int) (a3 b3 : Int) : eqD Tryz.prog (d + 3) 50 (.agg [.str a0, .int .i64 a1, .int .i64 a2, .int .i64 a3]) (.agg [.str b0, .int .i64 b1, .int .i64 b2, .int .i64 b3]) = some (decide (a0 = b0) && (decide (a1 = b1) && decide (a2 = b2) && decide (a3 = b3))) := by
 rw [eqD_struct Tryz.underlying50 (by kernel_rfl)]
 simp only [eqFieldsD, takeD, List.getElem?_cons_zero, List.getElem?_cons_succ, List.drop_succ_cons, List.drop_zero, List.take_succ_cons, List.take_zero, List.length_cons, List.length_nil, Nat.reduceAdd, Nat.reduceLeDiff, if_true, if_false, Bool.false_eq_true, ne_eq, String.reduceEq, not_false_eq_true, decide_eq_true_eq, isAggT9, isOneT9, sizeT9, eqD_str Tryz.underlying9, isAggT49, isOneT49, sizeT49, eqT49]
 (repeat' split) <;> simp_all
@[go_sem] theorem eqU50 (a0 b0 : ByteArray) (a1 b1 : Int) (a2 b2 : Int) (a3 b3 : Int) : eqD Tryz.prog 8 50 (.agg [.str a0, .int .i64 a1, .int .i64 a2, .int .i64 a3]) (.agg [.str b0, .int .i64 b1, .int .i64 b2, .int .i64 b3]) = some (decide (a0 = b0) && (decide (a1 = b1) && decide (a2 = b2) && decide (a3 = b3))) := eqT50 5 a0 b0 a1 b1 a2 b2 a3 b3
attribute [go_sem] guardT50
theorem guardT51 : Tryz.prog.eqGuardType Tryz.prog.depth 51 = false := by kernel_rfl
theorem eqT51 (d : Nat) (a0 b0 : ByteArray) (a1 b1 : Int) (a2 b2 : Int) (a3 b3 : Int) : eqD Tryz.prog (d + 3) 51 (.agg [.str a0, .int .i64 a1, .int .i64 a2, .int .i64 a3]) (.agg [.str b0, .int .i64 b1, .int .i64 b2, .int .i64 b3]) = some (decide (a0 = b0) && (decide (a1 = b1) && decide (a2 = b2) && decide (a3 = b3))) := by
 rw [eqD_struct Tryz.underlying51 (by kernel_rfl)]
 simp only [eqFieldsD, takeD, List.getElem?_cons_zero, List.getElem?_cons_succ, List.drop_succ_cons, List.drop_zero, List.take_succ_cons, List.take_zero, List.length_cons, List.length_nil, Nat.reduceAdd, Nat.reduceLeDiff, if_true, if_false, Bool.false_eq_true, ne_eq, String.reduceEq, not_false_eq_true, decide_eq_true_eq, isAggT9, isOneT9, sizeT9, eqD_str Tryz.underlying9, isAggT49, isOneT49, sizeT49, eqT49]
 (repeat' split) <;> simp_all
@[go_sem] theorem eqU51 (a0 b0 : ByteArray) (a1 b1 : Int) (a2 b2 : Int) (a3 b3 : Int) : eqD Tryz.prog 8 51 (.agg [.str a0, .int .i64 a1, .int .i64 a2, .int .i64 a3]) (.agg [.str b0, .int .i64 b1, .int .i64 b2, .int .i64 b3]) = some (decide (a0 = b0) && (decide (a1 = b1) && decide (a2 = b2) && decide (a3 = b3))) := eqT51 5 a0 b0 a1 b1 a2 b2 a3 b3
attribute [go_sem] guardT51
theorem guardT122 : Tryz.prog.eqGuardType Tryz.prog.depth 122 = false := by kernel_rfl
theorem eqT122 (d : Nat) (a0 b0 : Int) (a1 b1 : ByteArray) : eqD Tryz.prog (d + 2) 122 (.agg [.int .i64 a0, .str a1]) (.agg [.int .i64 b0, .str b1]) = some (decide (a0 = b0) && decide (a1 = b1)) := by
 rw [eqD_struct Tryz.underlying122 (by kernel_rfl)]
 simp only [eqFieldsD, takeD, List.getElem?_cons_zero, List.getElem?_cons_succ, List.drop_succ_cons, List.drop_zero, List.take_succ_cons, List.take_zero, List.length_cons, List.length_nil, Nat.reduceAdd, Nat.reduceLeDiff, if_true, if_false, Bool.false_eq_true, ne_eq, String.reduceEq, not_false_eq_true, decide_eq_true_eq, isAggT3, isOneT3, sizeT3, eqD_int Tryz.underlying3, isAggT9, isOneT9, sizeT9, eqD_str Tryz.underlying9]
 (repeat' split) <;> simp_all
@[go_sem] theorem eqU122 (a0 b0 : Int) (a1 b1 : ByteArray) : eqD Tryz.prog 8 122 (.agg [.int .i64 a0, .str a1]) (.agg [.int .i64 b0, .str b1]) = some (decide (a0 = b0) && decide (a1 = b1)) := eqT122 6 a0 b0 a1 b1
attribute [go_sem] guardT122
theorem guardT123 : Tryz.prog.eqGuardType Tryz.prog.depth 123 = false := by kernel_rfl
theorem eqT123 (d : Nat) (a0 b0 : Int) (a1 b1 : ByteArray) : eqD Tryz.prog (d + 2) 123 (.agg [.int .i64 a0, .str a1]) (.agg [.int .i64 b0, .str b1]) = some (decide (a0 = b0) && decide (a1 = b1)) := by
 rw [eqD_struct Tryz.underlying123 (by kernel_rfl)]
 simp only [eqFieldsD, takeD, List.getElem?_cons_zero, List.getElem?_cons_succ, List.drop_succ_cons, List.drop_zero, List.take_succ_cons, List.take_zero, List.length_cons, List.length_nil, Nat.reduceAdd, Nat.reduceLeDiff, if_true, if_false, Bool.false_eq_true, ne_eq, String.reduceEq, not_false_eq_true, decide_eq_true_eq, isAggT3, isOneT3, sizeT3, eqD_int Tryz.underlying3, isAggT9, isOneT9, sizeT9, eqD_str Tryz.underlying9]
 (repeat' split) <;> simp_all
@[go_sem] theorem eqU123 (a0 b0 : Int) (a1 b1 : ByteArray) : eqD Tryz.prog 8 123 (.agg [.int .i64 a0, .str a1]) (.agg [.int .i64 b0, .str b1]) = some (decide (a0 = b0) && decide (a1 = b1)) := eqT123 6 a0 b0 a1 b1
attribute [go_sem] guardT123
theorem mixed : Tryz.prog.follows .mixedOrders = true := by kernel_rfl

end Go.Proofs.YtkhjpcmpljpmjaaGreatDoor.Facts
