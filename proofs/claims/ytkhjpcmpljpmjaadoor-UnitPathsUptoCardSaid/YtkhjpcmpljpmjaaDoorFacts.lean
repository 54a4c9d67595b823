/-
  The closed facts of the seat's type table that the abstract layer uses, printed by program. No condition.
-/
import Derived.Test.YtkhjpcmpljpmjaaDoorLayD
import Derived.Test.YtkhjpcmpljpmjaaDoorProg
import Derived.KernelRfl
set_option linter.unusedSimpArgs false
set_option linter.unusedVariables false
namespace Go.Proofs.YtkhjpcmpljpmjaaDoor.Facts
open Go.Proofs.YtkhjpcmpljpmjaaDoor.Abs
@[go_sem] theorem isAggT1 : isAggT Tryd.prog 1 = false := by kernel_rfl
@[go_sem] theorem isOneT1 : isOneT Tryd.prog 1 = true := by kernel_rfl
@[go_sem] theorem elemT1 : elemT Tryd.prog 1 = none := by kernel_rfl
@[go_sem] theorem arrT1 : arrT Tryd.prog 1 = none := by kernel_rfl
@[go_sem] theorem intT1 : intT Tryd.prog 1 = none := by kernel_rfl
@[go_sem] theorem strT1 : strT Tryd.prog 1 = false := by kernel_rfl
@[go_sem] theorem boolT1 : boolT Tryd.prog 1 = false := by kernel_rfl
@[go_sem] theorem mapT1 : mapT Tryd.prog 1 = none := by kernel_rfl
@[go_sem] theorem sizeT1 : sizeT Tryd.prog 1 = 1 := by kernel_rfl
@[go_sem] theorem bytesT1 : bytesT Tryd.prog 1 = 8 := by kernel_rfl
@[go_sem] theorem zeroT1 : zeroT Tryd.prog 1 = some [D.nfun] := by kernel_rfl
@[go_sem] theorem hasZero1 : hasZero Tryd.prog 1 = true := by kernel_rfl
@[go_sem] theorem isAggT2 : isAggT Tryd.prog 2 = false := by kernel_rfl
@[go_sem] theorem isOneT2 : isOneT Tryd.prog 2 = true := by kernel_rfl
@[go_sem] theorem elemT2 : elemT Tryd.prog 2 = none := by kernel_rfl
@[go_sem] theorem arrT2 : arrT Tryd.prog 2 = none := by kernel_rfl
@[go_sem] theorem intT2 : intT Tryd.prog 2 = some .i64 := by kernel_rfl
@[go_sem] theorem strT2 : strT Tryd.prog 2 = false := by kernel_rfl
@[go_sem] theorem boolT2 : boolT Tryd.prog 2 = false := by kernel_rfl
@[go_sem] theorem mapT2 : mapT Tryd.prog 2 = none := by kernel_rfl
@[go_sem] theorem sizeT2 : sizeT Tryd.prog 2 = 1 := by kernel_rfl
@[go_sem] theorem bytesT2 : bytesT Tryd.prog 2 = 8 := by kernel_rfl
@[go_sem] theorem zeroT2 : zeroT Tryd.prog 2 = some [D.int .i64 0] := by kernel_rfl
@[go_sem] theorem hasZero2 : hasZero Tryd.prog 2 = true := by kernel_rfl
@[go_sem] theorem isAggT3 : isAggT Tryd.prog 3 = false := by kernel_rfl
@[go_sem] theorem isOneT3 : isOneT Tryd.prog 3 = true := by kernel_rfl
@[go_sem] theorem elemT3 : elemT Tryd.prog 3 = none := by kernel_rfl
@[go_sem] theorem arrT3 : arrT Tryd.prog 3 = none := by kernel_rfl
@[go_sem] theorem intT3 : intT Tryd.prog 3 = some .i64 := by kernel_rfl
@[go_sem] theorem strT3 : strT Tryd.prog 3 = false := by kernel_rfl
@[go_sem] theorem boolT3 : boolT Tryd.prog 3 = false := by kernel_rfl
@[go_sem] theorem mapT3 : mapT Tryd.prog 3 = none := by kernel_rfl
@[go_sem] theorem sizeT3 : sizeT Tryd.prog 3 = 1 := by kernel_rfl
@[go_sem] theorem bytesT3 : bytesT Tryd.prog 3 = 8 := by kernel_rfl
@[go_sem] theorem zeroT3 : zeroT Tryd.prog 3 = some [D.int .i64 0] := by kernel_rfl
@[go_sem] theorem hasZero3 : hasZero Tryd.prog 3 = true := by kernel_rfl
@[go_sem] theorem isAggT4 : isAggT Tryd.prog 4 = false := by kernel_rfl
@[go_sem] theorem isOneT4 : isOneT Tryd.prog 4 = true := by kernel_rfl
@[go_sem] theorem elemT4 : elemT Tryd.prog 4 = none := by kernel_rfl
@[go_sem] theorem arrT4 : arrT Tryd.prog 4 = none := by kernel_rfl
@[go_sem] theorem intT4 : intT Tryd.prog 4 = none := by kernel_rfl
@[go_sem] theorem strT4 : strT Tryd.prog 4 = false := by kernel_rfl
@[go_sem] theorem boolT4 : boolT Tryd.prog 4 = true := by kernel_rfl
@[go_sem] theorem mapT4 : mapT Tryd.prog 4 = none := by kernel_rfl
@[go_sem] theorem sizeT4 : sizeT Tryd.prog 4 = 1 := by kernel_rfl
@[go_sem] theorem bytesT4 : bytesT Tryd.prog 4 = 1 := by kernel_rfl
@[go_sem] theorem zeroT4 : zeroT Tryd.prog 4 = some [D.bool false] := by kernel_rfl
@[go_sem] theorem hasZero4 : hasZero Tryd.prog 4 = true := by kernel_rfl
@[go_sem] theorem isAggT5 : isAggT Tryd.prog 5 = false := by kernel_rfl
@[go_sem] theorem isOneT5 : isOneT Tryd.prog 5 = true := by kernel_rfl
@[go_sem] theorem elemT5 : elemT Tryd.prog 5 = none := by kernel_rfl
@[go_sem] theorem arrT5 : arrT Tryd.prog 5 = none := by kernel_rfl
@[go_sem] theorem intT5 : intT Tryd.prog 5 = some .u8 := by kernel_rfl
@[go_sem] theorem strT5 : strT Tryd.prog 5 = false := by kernel_rfl
@[go_sem] theorem boolT5 : boolT Tryd.prog 5 = false := by kernel_rfl
@[go_sem] theorem mapT5 : mapT Tryd.prog 5 = none := by kernel_rfl
@[go_sem] theorem sizeT5 : sizeT Tryd.prog 5 = 1 := by kernel_rfl
@[go_sem] theorem bytesT5 : bytesT Tryd.prog 5 = 1 := by kernel_rfl
@[go_sem] theorem zeroT5 : zeroT Tryd.prog 5 = some [D.int .u8 0] := by kernel_rfl
@[go_sem] theorem hasZero5 : hasZero Tryd.prog 5 = true := by kernel_rfl
@[go_sem] theorem isAggT9 : isAggT Tryd.prog 9 = false := by kernel_rfl
@[go_sem] theorem isOneT9 : isOneT Tryd.prog 9 = true := by kernel_rfl
@[go_sem] theorem elemT9 : elemT Tryd.prog 9 = none := by kernel_rfl
@[go_sem] theorem arrT9 : arrT Tryd.prog 9 = none := by kernel_rfl
@[go_sem] theorem intT9 : intT Tryd.prog 9 = none := by kernel_rfl
@[go_sem] theorem strT9 : strT Tryd.prog 9 = true := by kernel_rfl
@[go_sem] theorem boolT9 : boolT Tryd.prog 9 = false := by kernel_rfl
@[go_sem] theorem mapT9 : mapT Tryd.prog 9 = none := by kernel_rfl
@[go_sem] theorem sizeT9 : sizeT Tryd.prog 9 = 1 := by kernel_rfl
@[go_sem] theorem bytesT9 : bytesT Tryd.prog 9 = 16 := by kernel_rfl
@[go_sem] theorem zeroT9 : zeroT Tryd.prog 9 = some [D.str ByteArray.empty] := by kernel_rfl
@[go_sem] theorem hasZero9 : hasZero Tryd.prog 9 = true := by kernel_rfl
@[go_sem] theorem isAggT21 : isAggT Tryd.prog 21 = false := by kernel_rfl
@[go_sem] theorem isOneT21 : isOneT Tryd.prog 21 = true := by kernel_rfl
@[go_sem] theorem elemT21 : elemT Tryd.prog 21 = none := by kernel_rfl
@[go_sem] theorem arrT21 : arrT Tryd.prog 21 = none := by kernel_rfl
@[go_sem] theorem intT21 : intT Tryd.prog 21 = some .i32 := by kernel_rfl
@[go_sem] theorem strT21 : strT Tryd.prog 21 = false := by kernel_rfl
@[go_sem] theorem boolT21 : boolT Tryd.prog 21 = false := by kernel_rfl
@[go_sem] theorem mapT21 : mapT Tryd.prog 21 = none := by kernel_rfl
@[go_sem] theorem sizeT21 : sizeT Tryd.prog 21 = 1 := by kernel_rfl
@[go_sem] theorem bytesT21 : bytesT Tryd.prog 21 = 4 := by kernel_rfl
@[go_sem] theorem zeroT21 : zeroT Tryd.prog 21 = some [D.int .i32 0] := by kernel_rfl
@[go_sem] theorem hasZero21 : hasZero Tryd.prog 21 = true := by kernel_rfl
@[go_sem] theorem isAggT23 : isAggT Tryd.prog 23 = true := by kernel_rfl
@[go_sem] theorem isOneT23 : isOneT Tryd.prog 23 = false := by kernel_rfl
@[go_sem] theorem elemT23 : elemT Tryd.prog 23 = none := by kernel_rfl
@[go_sem] theorem arrT23 : arrT Tryd.prog 23 = none := by kernel_rfl
@[go_sem] theorem intT23 : intT Tryd.prog 23 = none := by kernel_rfl
@[go_sem] theorem strT23 : strT Tryd.prog 23 = false := by kernel_rfl
@[go_sem] theorem boolT23 : boolT Tryd.prog 23 = false := by kernel_rfl
@[go_sem] theorem mapT23 : mapT Tryd.prog 23 = none := by kernel_rfl
@[go_sem] theorem sizeT23 : sizeT Tryd.prog 23 = 3 := by kernel_rfl
@[go_sem] theorem bytesT23 : bytesT Tryd.prog 23 = 24 := by kernel_rfl
@[go_sem] theorem fieldsOK23 : fieldsOK Tryd.prog 23 = true := by kernel_rfl
@[go_sem] theorem fieldT23_0 : fieldT Tryd.prog 23 0 = some (0, 3) := by kernel_rfl
@[go_sem] theorem fieldT23_1 : fieldT Tryd.prog 23 1 = some (1, 3) := by kernel_rfl
@[go_sem] theorem fieldT23_2 : fieldT Tryd.prog 23 2 = some (2, 3) := by kernel_rfl
@[go_sem] theorem zeroT23 : zeroT Tryd.prog 23 = some [D.int .i64 0, D.int .i64 0, D.int .i64 0] := by kernel_rfl
@[go_sem] theorem hasZero23 : hasZero Tryd.prog 23 = true := by kernel_rfl
@[go_sem] theorem isAggT24 : isAggT Tryd.prog 24 = false := by kernel_rfl
@[go_sem] theorem isOneT24 : isOneT Tryd.prog 24 = true := by kernel_rfl
@[go_sem] theorem elemT24 : elemT Tryd.prog 24 = some 37 := by kernel_rfl
@[go_sem] theorem arrT24 : arrT Tryd.prog 24 = none := by kernel_rfl
@[go_sem] theorem intT24 : intT Tryd.prog 24 = none := by kernel_rfl
@[go_sem] theorem strT24 : strT Tryd.prog 24 = false := by kernel_rfl
@[go_sem] theorem boolT24 : boolT Tryd.prog 24 = false := by kernel_rfl
@[go_sem] theorem mapT24 : mapT Tryd.prog 24 = none := by kernel_rfl
@[go_sem] theorem sizeT24 : sizeT Tryd.prog 24 = 1 := by kernel_rfl
@[go_sem] theorem bytesT24 : bytesT Tryd.prog 24 = 24 := by kernel_rfl
@[go_sem] theorem zeroT24 : zeroT Tryd.prog 24 = some [D.nil] := by kernel_rfl
@[go_sem] theorem hasZero24 : hasZero Tryd.prog 24 = true := by kernel_rfl
@[go_sem] theorem isAggT25 : isAggT Tryd.prog 25 = false := by kernel_rfl
@[go_sem] theorem isOneT25 : isOneT Tryd.prog 25 = true := by kernel_rfl
@[go_sem] theorem elemT25 : elemT Tryd.prog 25 = some 27 := by kernel_rfl
@[go_sem] theorem arrT25 : arrT Tryd.prog 25 = none := by kernel_rfl
@[go_sem] theorem intT25 : intT Tryd.prog 25 = none := by kernel_rfl
@[go_sem] theorem strT25 : strT Tryd.prog 25 = false := by kernel_rfl
@[go_sem] theorem boolT25 : boolT Tryd.prog 25 = false := by kernel_rfl
@[go_sem] theorem mapT25 : mapT Tryd.prog 25 = none := by kernel_rfl
@[go_sem] theorem sizeT25 : sizeT Tryd.prog 25 = 1 := by kernel_rfl
@[go_sem] theorem bytesT25 : bytesT Tryd.prog 25 = 24 := by kernel_rfl
@[go_sem] theorem zeroT25 : zeroT Tryd.prog 25 = some [D.nil] := by kernel_rfl
@[go_sem] theorem hasZero25 : hasZero Tryd.prog 25 = true := by kernel_rfl
@[go_sem] theorem isAggT27 : isAggT Tryd.prog 27 = true := by kernel_rfl
@[go_sem] theorem isOneT27 : isOneT Tryd.prog 27 = false := by kernel_rfl
@[go_sem] theorem elemT27 : elemT Tryd.prog 27 = none := by kernel_rfl
@[go_sem] theorem arrT27 : arrT Tryd.prog 27 = none := by kernel_rfl
@[go_sem] theorem intT27 : intT Tryd.prog 27 = none := by kernel_rfl
@[go_sem] theorem strT27 : strT Tryd.prog 27 = false := by kernel_rfl
@[go_sem] theorem boolT27 : boolT Tryd.prog 27 = false := by kernel_rfl
@[go_sem] theorem mapT27 : mapT Tryd.prog 27 = none := by kernel_rfl
@[go_sem] theorem sizeT27 : sizeT Tryd.prog 27 = 8 := by kernel_rfl
@[go_sem] theorem bytesT27 : bytesT Tryd.prog 27 = 120 := by kernel_rfl
@[go_sem] theorem fieldsOK27 : fieldsOK Tryd.prog 27 = true := by kernel_rfl
@[go_sem] theorem fieldT27_0 : fieldT Tryd.prog 27 0 = some (0, 23) := by kernel_rfl
@[go_sem] theorem fieldT27_1 : fieldT Tryd.prog 27 1 = some (3, 3) := by kernel_rfl
@[go_sem] theorem fieldT27_2 : fieldT Tryd.prog 27 2 = some (4, 9) := by kernel_rfl
@[go_sem] theorem fieldT27_3 : fieldT Tryd.prog 27 3 = some (5, 24) := by kernel_rfl
@[go_sem] theorem fieldT27_4 : fieldT Tryd.prog 27 4 = some (6, 24) := by kernel_rfl
@[go_sem] theorem fieldT27_5 : fieldT Tryd.prog 27 5 = some (7, 25) := by kernel_rfl
@[go_sem] theorem zeroT27 : zeroT Tryd.prog 27 = some [D.int .i64 0, D.int .i64 0, D.int .i64 0, D.int .i64 0, D.str ByteArray.empty, D.nil, D.nil, D.nil] := by kernel_rfl
@[go_sem] theorem hasZero27 : hasZero Tryd.prog 27 = true := by kernel_rfl
@[go_sem] theorem isAggT30 : isAggT Tryd.prog 30 = false := by kernel_rfl
@[go_sem] theorem isOneT30 : isOneT Tryd.prog 30 = true := by kernel_rfl
@[go_sem] theorem elemT30 : elemT Tryd.prog 30 = none := by kernel_rfl
@[go_sem] theorem arrT30 : arrT Tryd.prog 30 = none := by kernel_rfl
@[go_sem] theorem intT30 : intT Tryd.prog 30 = none := by kernel_rfl
@[go_sem] theorem strT30 : strT Tryd.prog 30 = false := by kernel_rfl
@[go_sem] theorem boolT30 : boolT Tryd.prog 30 = false := by kernel_rfl
@[go_sem] theorem mapT30 : mapT Tryd.prog 30 = none := by kernel_rfl
@[go_sem] theorem sizeT30 : sizeT Tryd.prog 30 = 1 := by kernel_rfl
@[go_sem] theorem bytesT30 : bytesT Tryd.prog 30 = 8 := by kernel_rfl
@[go_sem] theorem zeroT30 : zeroT Tryd.prog 30 = some [D.nfun] := by kernel_rfl
@[go_sem] theorem hasZero30 : hasZero Tryd.prog 30 = true := by kernel_rfl
@[go_sem] theorem isAggT35 : isAggT Tryd.prog 35 = true := by kernel_rfl
@[go_sem] theorem isOneT35 : isOneT Tryd.prog 35 = false := by kernel_rfl
@[go_sem] theorem elemT35 : elemT Tryd.prog 35 = none := by kernel_rfl
@[go_sem] theorem arrT35 : arrT Tryd.prog 35 = none := by kernel_rfl
@[go_sem] theorem intT35 : intT Tryd.prog 35 = none := by kernel_rfl
@[go_sem] theorem strT35 : strT Tryd.prog 35 = false := by kernel_rfl
@[go_sem] theorem boolT35 : boolT Tryd.prog 35 = false := by kernel_rfl
@[go_sem] theorem mapT35 : mapT Tryd.prog 35 = none := by kernel_rfl
@[go_sem] theorem sizeT35 : sizeT Tryd.prog 35 = 3 := by kernel_rfl
@[go_sem] theorem bytesT35 : bytesT Tryd.prog 35 = 24 := by kernel_rfl
@[go_sem] theorem fieldsOK35 : fieldsOK Tryd.prog 35 = true := by kernel_rfl
@[go_sem] theorem fieldT35_0 : fieldT Tryd.prog 35 0 = some (0, 3) := by kernel_rfl
@[go_sem] theorem fieldT35_1 : fieldT Tryd.prog 35 1 = some (1, 3) := by kernel_rfl
@[go_sem] theorem fieldT35_2 : fieldT Tryd.prog 35 2 = some (2, 3) := by kernel_rfl
@[go_sem] theorem zeroT35 : zeroT Tryd.prog 35 = some [D.int .i64 0, D.int .i64 0, D.int .i64 0] := by kernel_rfl
@[go_sem] theorem hasZero35 : hasZero Tryd.prog 35 = true := by kernel_rfl
@[go_sem] theorem isAggT37 : isAggT Tryd.prog 37 = true := by kernel_rfl
@[go_sem] theorem isOneT37 : isOneT Tryd.prog 37 = false := by kernel_rfl
@[go_sem] theorem elemT37 : elemT Tryd.prog 37 = none := by kernel_rfl
@[go_sem] theorem arrT37 : arrT Tryd.prog 37 = none := by kernel_rfl
@[go_sem] theorem intT37 : intT Tryd.prog 37 = none := by kernel_rfl
@[go_sem] theorem strT37 : strT Tryd.prog 37 = false := by kernel_rfl
@[go_sem] theorem boolT37 : boolT Tryd.prog 37 = false := by kernel_rfl
@[go_sem] theorem mapT37 : mapT Tryd.prog 37 = none := by kernel_rfl
@[go_sem] theorem sizeT37 : sizeT Tryd.prog 37 = 4 := by kernel_rfl
@[go_sem] theorem bytesT37 : bytesT Tryd.prog 37 = 40 := by kernel_rfl
@[go_sem] theorem fieldsOK37 : fieldsOK Tryd.prog 37 = true := by kernel_rfl
@[go_sem] theorem fieldT37_0 : fieldT Tryd.prog 37 0 = some (0, 9) := by kernel_rfl
@[go_sem] theorem fieldT37_1 : fieldT Tryd.prog 37 1 = some (1, 35) := by kernel_rfl
@[go_sem] theorem zeroT37 : zeroT Tryd.prog 37 = some [D.str ByteArray.empty, D.int .i64 0, D.int .i64 0, D.int .i64 0] := by kernel_rfl
@[go_sem] theorem hasZero37 : hasZero Tryd.prog 37 = true := by kernel_rfl
@[go_sem] theorem isAggT38 : isAggT Tryd.prog 38 = false := by kernel_rfl
@[go_sem] theorem isOneT38 : isOneT Tryd.prog 38 = true := by kernel_rfl
@[go_sem] theorem elemT38 : elemT Tryd.prog 38 = some 5 := by kernel_rfl
@[go_sem] theorem arrT38 : arrT Tryd.prog 38 = none := by kernel_rfl
@[go_sem] theorem intT38 : intT Tryd.prog 38 = none := by kernel_rfl
@[go_sem] theorem strT38 : strT Tryd.prog 38 = false := by kernel_rfl
@[go_sem] theorem boolT38 : boolT Tryd.prog 38 = false := by kernel_rfl
@[go_sem] theorem mapT38 : mapT Tryd.prog 38 = none := by kernel_rfl
@[go_sem] theorem sizeT38 : sizeT Tryd.prog 38 = 1 := by kernel_rfl
@[go_sem] theorem bytesT38 : bytesT Tryd.prog 38 = 24 := by kernel_rfl
@[go_sem] theorem zeroT38 : zeroT Tryd.prog 38 = some [D.nil] := by kernel_rfl
@[go_sem] theorem hasZero38 : hasZero Tryd.prog 38 = true := by kernel_rfl
@[go_sem] theorem isAggT46 : isAggT Tryd.prog 46 = false := by kernel_rfl
@[go_sem] theorem isOneT46 : isOneT Tryd.prog 46 = true := by kernel_rfl
@[go_sem] theorem elemT46 : elemT Tryd.prog 46 = some 23 := by kernel_rfl
@[go_sem] theorem arrT46 : arrT Tryd.prog 46 = none := by kernel_rfl
@[go_sem] theorem intT46 : intT Tryd.prog 46 = none := by kernel_rfl
@[go_sem] theorem strT46 : strT Tryd.prog 46 = false := by kernel_rfl
@[go_sem] theorem boolT46 : boolT Tryd.prog 46 = false := by kernel_rfl
@[go_sem] theorem mapT46 : mapT Tryd.prog 46 = none := by kernel_rfl
@[go_sem] theorem sizeT46 : sizeT Tryd.prog 46 = 1 := by kernel_rfl
@[go_sem] theorem bytesT46 : bytesT Tryd.prog 46 = 24 := by kernel_rfl
@[go_sem] theorem zeroT46 : zeroT Tryd.prog 46 = some [D.nil] := by kernel_rfl
@[go_sem] theorem hasZero46 : hasZero Tryd.prog 46 = true := by kernel_rfl
@[go_sem] theorem isAggT48 : isAggT Tryd.prog 48 = false := by kernel_rfl
@[go_sem] theorem isOneT48 : isOneT Tryd.prog 48 = true := by kernel_rfl
@[go_sem] theorem elemT48 : elemT Tryd.prog 48 = none := by kernel_rfl
@[go_sem] theorem arrT48 : arrT Tryd.prog 48 = none := by kernel_rfl
@[go_sem] theorem intT48 : intT Tryd.prog 48 = none := by kernel_rfl
@[go_sem] theorem strT48 : strT Tryd.prog 48 = false := by kernel_rfl
@[go_sem] theorem boolT48 : boolT Tryd.prog 48 = false := by kernel_rfl
@[go_sem] theorem mapT48 : mapT Tryd.prog 48 = none := by kernel_rfl
@[go_sem] theorem sizeT48 : sizeT Tryd.prog 48 = 1 := by kernel_rfl
@[go_sem] theorem bytesT48 : bytesT Tryd.prog 48 = 8 := by kernel_rfl
@[go_sem] theorem zeroT48 : zeroT Tryd.prog 48 = some [D.nfun] := by kernel_rfl
@[go_sem] theorem hasZero48 : hasZero Tryd.prog 48 = true := by kernel_rfl
@[go_sem] theorem isAggT63 : isAggT Tryd.prog 63 = false := by kernel_rfl
@[go_sem] theorem isOneT63 : isOneT Tryd.prog 63 = true := by kernel_rfl
@[go_sem] theorem elemT63 : elemT Tryd.prog 63 = none := by kernel_rfl
@[go_sem] theorem arrT63 : arrT Tryd.prog 63 = none := by kernel_rfl
@[go_sem] theorem intT63 : intT Tryd.prog 63 = none := by kernel_rfl
@[go_sem] theorem strT63 : strT Tryd.prog 63 = false := by kernel_rfl
@[go_sem] theorem boolT63 : boolT Tryd.prog 63 = false := by kernel_rfl
@[go_sem] theorem mapT63 : mapT Tryd.prog 63 = none := by kernel_rfl
@[go_sem] theorem sizeT63 : sizeT Tryd.prog 63 = 1 := by kernel_rfl
@[go_sem] theorem bytesT63 : bytesT Tryd.prog 63 = 8 := by kernel_rfl
@[go_sem] theorem zeroT63 : zeroT Tryd.prog 63 = some [D.nfun] := by kernel_rfl
@[go_sem] theorem hasZero63 : hasZero Tryd.prog 63 = true := by kernel_rfl
@[go_sem] theorem isAggT66 : isAggT Tryd.prog 66 = false := by kernel_rfl
@[go_sem] theorem isOneT66 : isOneT Tryd.prog 66 = true := by kernel_rfl
@[go_sem] theorem elemT66 : elemT Tryd.prog 66 = some 3 := by kernel_rfl
@[go_sem] theorem arrT66 : arrT Tryd.prog 66 = none := by kernel_rfl
@[go_sem] theorem intT66 : intT Tryd.prog 66 = none := by kernel_rfl
@[go_sem] theorem strT66 : strT Tryd.prog 66 = false := by kernel_rfl
@[go_sem] theorem boolT66 : boolT Tryd.prog 66 = false := by kernel_rfl
@[go_sem] theorem mapT66 : mapT Tryd.prog 66 = none := by kernel_rfl
@[go_sem] theorem sizeT66 : sizeT Tryd.prog 66 = 1 := by kernel_rfl
@[go_sem] theorem bytesT66 : bytesT Tryd.prog 66 = 24 := by kernel_rfl
@[go_sem] theorem zeroT66 : zeroT Tryd.prog 66 = some [D.nil] := by kernel_rfl
@[go_sem] theorem hasZero66 : hasZero Tryd.prog 66 = true := by kernel_rfl
@[go_sem] theorem isAggT67 : isAggT Tryd.prog 67 = true := by kernel_rfl
@[go_sem] theorem isOneT67 : isOneT Tryd.prog 67 = false := by kernel_rfl
@[go_sem] theorem elemT67 : elemT Tryd.prog 67 = none := by kernel_rfl
@[go_sem] theorem arrT67 : arrT Tryd.prog 67 = some (8, 66) := by kernel_rfl
@[go_sem] theorem intT67 : intT Tryd.prog 67 = none := by kernel_rfl
@[go_sem] theorem strT67 : strT Tryd.prog 67 = false := by kernel_rfl
@[go_sem] theorem boolT67 : boolT Tryd.prog 67 = false := by kernel_rfl
@[go_sem] theorem mapT67 : mapT Tryd.prog 67 = none := by kernel_rfl
@[go_sem] theorem sizeT67 : sizeT Tryd.prog 67 = 8 := by kernel_rfl
@[go_sem] theorem bytesT67 : bytesT Tryd.prog 67 = 192 := by kernel_rfl
@[go_sem] theorem zeroT67 : zeroT Tryd.prog 67 = some [D.nil, D.nil, D.nil, D.nil, D.nil, D.nil, D.nil, D.nil] := by kernel_rfl
@[go_sem] theorem hasZero67 : hasZero Tryd.prog 67 = true := by kernel_rfl
@[go_sem] theorem under67 : Tryd.prog.underlying 67 = some (.array 8 66) := by kernel_rfl
@[go_sem] theorem isAggT68 : isAggT Tryd.prog 68 = true := by kernel_rfl
@[go_sem] theorem isOneT68 : isOneT Tryd.prog 68 = false := by kernel_rfl
@[go_sem] theorem elemT68 : elemT Tryd.prog 68 = none := by kernel_rfl
@[go_sem] theorem arrT68 : arrT Tryd.prog 68 = some (8, 9) := by kernel_rfl
@[go_sem] theorem intT68 : intT Tryd.prog 68 = none := by kernel_rfl
@[go_sem] theorem strT68 : strT Tryd.prog 68 = false := by kernel_rfl
@[go_sem] theorem boolT68 : boolT Tryd.prog 68 = false := by kernel_rfl
@[go_sem] theorem mapT68 : mapT Tryd.prog 68 = none := by kernel_rfl
@[go_sem] theorem sizeT68 : sizeT Tryd.prog 68 = 8 := by kernel_rfl
@[go_sem] theorem bytesT68 : bytesT Tryd.prog 68 = 128 := by kernel_rfl
@[go_sem] theorem zeroT68 : zeroT Tryd.prog 68 = some [D.str ByteArray.empty, D.str ByteArray.empty, D.str ByteArray.empty, D.str ByteArray.empty, D.str ByteArray.empty, D.str ByteArray.empty, D.str ByteArray.empty, D.str ByteArray.empty] := by kernel_rfl
@[go_sem] theorem hasZero68 : hasZero Tryd.prog 68 = true := by kernel_rfl
@[go_sem] theorem under68 : Tryd.prog.underlying 68 = some (.array 8 9) := by kernel_rfl
@[go_sem] theorem isAggT69 : isAggT Tryd.prog 69 = false := by kernel_rfl
@[go_sem] theorem isOneT69 : isOneT Tryd.prog 69 = true := by kernel_rfl
@[go_sem] theorem elemT69 : elemT Tryd.prog 69 = some 9 := by kernel_rfl
@[go_sem] theorem arrT69 : arrT Tryd.prog 69 = none := by kernel_rfl
@[go_sem] theorem intT69 : intT Tryd.prog 69 = none := by kernel_rfl
@[go_sem] theorem strT69 : strT Tryd.prog 69 = false := by kernel_rfl
@[go_sem] theorem boolT69 : boolT Tryd.prog 69 = false := by kernel_rfl
@[go_sem] theorem mapT69 : mapT Tryd.prog 69 = none := by kernel_rfl
@[go_sem] theorem sizeT69 : sizeT Tryd.prog 69 = 1 := by kernel_rfl
@[go_sem] theorem bytesT69 : bytesT Tryd.prog 69 = 24 := by kernel_rfl
@[go_sem] theorem zeroT69 : zeroT Tryd.prog 69 = some [D.nil] := by kernel_rfl
@[go_sem] theorem hasZero69 : hasZero Tryd.prog 69 = true := by kernel_rfl
@[go_sem] theorem isAggT87 : isAggT Tryd.prog 87 = false := by kernel_rfl
@[go_sem] theorem isOneT87 : isOneT Tryd.prog 87 = true := by kernel_rfl
@[go_sem] theorem elemT87 : elemT Tryd.prog 87 = none := by kernel_rfl
@[go_sem] theorem arrT87 : arrT Tryd.prog 87 = none := by kernel_rfl
@[go_sem] theorem intT87 : intT Tryd.prog 87 = none := by kernel_rfl
@[go_sem] theorem strT87 : strT Tryd.prog 87 = false := by kernel_rfl
@[go_sem] theorem boolT87 : boolT Tryd.prog 87 = false := by kernel_rfl
@[go_sem] theorem mapT87 : mapT Tryd.prog 87 = none := by kernel_rfl
@[go_sem] theorem sizeT87 : sizeT Tryd.prog 87 = 1 := by kernel_rfl
@[go_sem] theorem bytesT87 : bytesT Tryd.prog 87 = 8 := by kernel_rfl
@[go_sem] theorem zeroT87 : zeroT Tryd.prog 87 = some [D.nfun] := by kernel_rfl
@[go_sem] theorem hasZero87 : hasZero Tryd.prog 87 = true := by kernel_rfl
@[go_sem] theorem isAggT88 : isAggT Tryd.prog 88 = false := by kernel_rfl
@[go_sem] theorem isOneT88 : isOneT Tryd.prog 88 = true := by kernel_rfl
@[go_sem] theorem elemT88 : elemT Tryd.prog 88 = none := by kernel_rfl
@[go_sem] theorem arrT88 : arrT Tryd.prog 88 = none := by kernel_rfl
@[go_sem] theorem intT88 : intT Tryd.prog 88 = none := by kernel_rfl
@[go_sem] theorem strT88 : strT Tryd.prog 88 = false := by kernel_rfl
@[go_sem] theorem boolT88 : boolT Tryd.prog 88 = false := by kernel_rfl
@[go_sem] theorem mapT88 : mapT Tryd.prog 88 = some (90, 4) := by kernel_rfl
@[go_sem] theorem sizeT88 : sizeT Tryd.prog 88 = 1 := by kernel_rfl
@[go_sem] theorem bytesT88 : bytesT Tryd.prog 88 = 8 := by kernel_rfl
@[go_sem] theorem zeroT88 : zeroT Tryd.prog 88 = some [D.nmp] := by kernel_rfl
@[go_sem] theorem hasZero88 : hasZero Tryd.prog 88 = true := by kernel_rfl
@[go_sem] theorem isAggT90 : isAggT Tryd.prog 90 = true := by kernel_rfl
@[go_sem] theorem isOneT90 : isOneT Tryd.prog 90 = false := by kernel_rfl
@[go_sem] theorem elemT90 : elemT Tryd.prog 90 = none := by kernel_rfl
@[go_sem] theorem arrT90 : arrT Tryd.prog 90 = none := by kernel_rfl
@[go_sem] theorem intT90 : intT Tryd.prog 90 = none := by kernel_rfl
@[go_sem] theorem strT90 : strT Tryd.prog 90 = false := by kernel_rfl
@[go_sem] theorem boolT90 : boolT Tryd.prog 90 = false := by kernel_rfl
@[go_sem] theorem mapT90 : mapT Tryd.prog 90 = none := by kernel_rfl
@[go_sem] theorem sizeT90 : sizeT Tryd.prog 90 = 2 := by kernel_rfl
@[go_sem] theorem bytesT90 : bytesT Tryd.prog 90 = 24 := by kernel_rfl
@[go_sem] theorem fieldsOK90 : fieldsOK Tryd.prog 90 = true := by kernel_rfl
@[go_sem] theorem fieldT90_0 : fieldT Tryd.prog 90 0 = some (0, 3) := by kernel_rfl
@[go_sem] theorem fieldT90_1 : fieldT Tryd.prog 90 1 = some (1, 9) := by kernel_rfl
@[go_sem] theorem zeroT90 : zeroT Tryd.prog 90 = some [D.int .i64 0, D.str ByteArray.empty] := by kernel_rfl
@[go_sem] theorem hasZero90 : hasZero Tryd.prog 90 = true := by kernel_rfl
@[go_sem] theorem isAggT91 : isAggT Tryd.prog 91 = false := by kernel_rfl
@[go_sem] theorem isOneT91 : isOneT Tryd.prog 91 = true := by kernel_rfl
@[go_sem] theorem elemT91 : elemT Tryd.prog 91 = none := by kernel_rfl
@[go_sem] theorem arrT91 : arrT Tryd.prog 91 = none := by kernel_rfl
@[go_sem] theorem intT91 : intT Tryd.prog 91 = none := by kernel_rfl
@[go_sem] theorem strT91 : strT Tryd.prog 91 = false := by kernel_rfl
@[go_sem] theorem boolT91 : boolT Tryd.prog 91 = false := by kernel_rfl
@[go_sem] theorem mapT91 : mapT Tryd.prog 91 = some (23, 4) := by kernel_rfl
@[go_sem] theorem sizeT91 : sizeT Tryd.prog 91 = 1 := by kernel_rfl
@[go_sem] theorem bytesT91 : bytesT Tryd.prog 91 = 8 := by kernel_rfl
@[go_sem] theorem zeroT91 : zeroT Tryd.prog 91 = some [D.nmp] := by kernel_rfl
@[go_sem] theorem hasZero91 : hasZero Tryd.prog 91 = true := by kernel_rfl
@[go_sem] theorem isAggT104 : isAggT Tryd.prog 104 = false := by kernel_rfl
@[go_sem] theorem isOneT104 : isOneT Tryd.prog 104 = true := by kernel_rfl
@[go_sem] theorem elemT104 : elemT Tryd.prog 104 = none := by kernel_rfl
@[go_sem] theorem arrT104 : arrT Tryd.prog 104 = none := by kernel_rfl
@[go_sem] theorem intT104 : intT Tryd.prog 104 = none := by kernel_rfl
@[go_sem] theorem strT104 : strT Tryd.prog 104 = false := by kernel_rfl
@[go_sem] theorem boolT104 : boolT Tryd.prog 104 = false := by kernel_rfl
@[go_sem] theorem mapT104 : mapT Tryd.prog 104 = none := by kernel_rfl
@[go_sem] theorem sizeT104 : sizeT Tryd.prog 104 = 1 := by kernel_rfl
@[go_sem] theorem bytesT104 : bytesT Tryd.prog 104 = 8 := by kernel_rfl
@[go_sem] theorem zeroT104 : zeroT Tryd.prog 104 = some [D.nfun] := by kernel_rfl
@[go_sem] theorem hasZero104 : hasZero Tryd.prog 104 = true := by kernel_rfl
@[go_sem] theorem isAggT117 : isAggT Tryd.prog 117 = false := by kernel_rfl
@[go_sem] theorem isOneT117 : isOneT Tryd.prog 117 = true := by kernel_rfl
@[go_sem] theorem elemT117 : elemT Tryd.prog 117 = none := by kernel_rfl
@[go_sem] theorem arrT117 : arrT Tryd.prog 117 = none := by kernel_rfl
@[go_sem] theorem intT117 : intT Tryd.prog 117 = none := by kernel_rfl
@[go_sem] theorem strT117 : strT Tryd.prog 117 = false := by kernel_rfl
@[go_sem] theorem boolT117 : boolT Tryd.prog 117 = false := by kernel_rfl
@[go_sem] theorem mapT117 : mapT Tryd.prog 117 = none := by kernel_rfl
@[go_sem] theorem sizeT117 : sizeT Tryd.prog 117 = 1 := by kernel_rfl
@[go_sem] theorem bytesT117 : bytesT Tryd.prog 117 = 8 := by kernel_rfl
@[go_sem] theorem zeroT117 : zeroT Tryd.prog 117 = some [D.nfun] := by kernel_rfl
@[go_sem] theorem hasZero117 : hasZero Tryd.prog 117 = true := by kernel_rfl
@[go_sem] theorem keyT90 : keyT Tryd.prog 90 = true := by kernel_rfl
@[go_sem] theorem zeroD4 : zeroD Tryd.prog 4 = some (D.bool false) := by kernel_rfl
@[go_sem] theorem keyT23 : keyT Tryd.prog 23 = true := by kernel_rfl
theorem eqD_struct {P : Program} {d : Nat} {t : TypeId} {fs : Array Field} {xs ys : List D} (hu : P.underlying t = some (.struct fs)) (hs : P.stoodInHeld t = false) : eqD P (d + 1) t (.agg xs) (.agg ys) = eqFieldsD (eqD P d) P xs ys fs.toList := by
  simp only [eqD, hu, hs, if_true]
theorem eqD_int {P : Program} {d : Nat} {t : TypeId} {k : IntKind} {a b : Int} (hu : P.underlying t = some (.int k)) : eqD P (d + 1) t (.int k a) (.int k b) = some (decide (a = b)) := by
  simp only [eqD, hu, if_true, Option.some.injEq]; by_cases h : a = b <;> simp [h]
theorem eqD_str {P : Program} {d : Nat} {t : TypeId} {a b : ByteArray} (hu : P.underlying t = some .string) : eqD P (d + 1) t (.str a) (.str b) = some (decide (a = b)) := by
  simp only [eqD, hu]
theorem guardT22 : Tryd.prog.eqGuardType Tryd.prog.depth 22 = false := by kernel_rfl
theorem eqT22 (d : Nat) (a0 b0 : Int) (a1 b1 : Int) (a2 b2 : Int) : eqD Tryd.prog (d + 2) 22 (.agg [.int .i64 a0, .int .i64 a1, .int .i64 a2]) (.agg [.int .i64 b0, .int .i64 b1, .int .i64 b2]) = some (decide (a0 = b0) && decide (a1 = b1) && decide (a2 = b2)) := by
  rw [eqD_struct Tryd.underlying22 (by kernel_rfl)]
  simp only [eqFieldsD, takeD, List.getElem?_cons_zero, List.getElem?_cons_succ, List.drop_succ_cons, List.drop_zero, List.take_succ_cons, List.take_zero, List.length_cons, List.length_nil, Nat.reduceAdd, Nat.reduceLeDiff, if_true, if_false, Bool.false_eq_true, ne_eq, String.reduceEq, not_false_eq_true, decide_eq_true_eq, isAggT3, isOneT3, sizeT3, eqD_int Tryd.underlying3]
  (repeat' split) <;> simp_all
@[go_sem] theorem eqU22 (a0 b0 : Int) (a1 b1 : Int) (a2 b2 : Int) : eqD Tryd.prog 8 22 (.agg [.int .i64 a0, .int .i64 a1, .int .i64 a2]) (.agg [.int .i64 b0, .int .i64 b1, .int .i64 b2]) = some (decide (a0 = b0) && decide (a1 = b1) && decide (a2 = b2)) := eqT22 6 a0 b0 a1 b1 a2 b2
attribute [go_sem] guardT22
theorem guardT23 : Tryd.prog.eqGuardType Tryd.prog.depth 23 = false := by kernel_rfl
theorem eqT23 (d : Nat) (a0 b0 : Int) (a1 b1 : Int) (a2 b2 : Int) : eqD Tryd.prog (d + 2) 23 (.agg [.int .i64 a0, .int .i64 a1, .int .i64 a2]) (.agg [.int .i64 b0, .int .i64 b1, .int .i64 b2]) = some (decide (a0 = b0) && decide (a1 = b1) && decide (a2 = b2)) := by
  rw [eqD_struct Tryd.underlying23 (by kernel_rfl)]
  simp only [eqFieldsD, takeD, List.getElem?_cons_zero, List.getElem?_cons_succ, List.drop_succ_cons, List.drop_zero, List.take_succ_cons, List.take_zero, List.length_cons, List.length_nil, Nat.reduceAdd, Nat.reduceLeDiff, if_true, if_false, Bool.false_eq_true, ne_eq, String.reduceEq, not_false_eq_true, decide_eq_true_eq, isAggT3, isOneT3, sizeT3, eqD_int Tryd.underlying3]
  (repeat' split) <;> simp_all
@[go_sem] theorem eqU23 (a0 b0 : Int) (a1 b1 : Int) (a2 b2 : Int) : eqD Tryd.prog 8 23 (.agg [.int .i64 a0, .int .i64 a1, .int .i64 a2]) (.agg [.int .i64 b0, .int .i64 b1, .int .i64 b2]) = some (decide (a0 = b0) && decide (a1 = b1) && decide (a2 = b2)) := eqT23 6 a0 b0 a1 b1 a2 b2
attribute [go_sem] guardT23
theorem guardT34 : Tryd.prog.eqGuardType Tryd.prog.depth 34 = false := by kernel_rfl
theorem eqT34 (d : Nat) (a0 b0 : Int) (a1 b1 : Int) (a2 b2 : Int) : eqD Tryd.prog (d + 2) 34 (.agg [.int .i64 a0, .int .i64 a1, .int .i64 a2]) (.agg [.int .i64 b0, .int .i64 b1, .int .i64 b2]) = some (decide (a0 = b0) && decide (a1 = b1) && decide (a2 = b2)) := by
  rw [eqD_struct Tryd.underlying34 (by kernel_rfl)]
  simp only [eqFieldsD, takeD, List.getElem?_cons_zero, List.getElem?_cons_succ, List.drop_succ_cons, List.drop_zero, List.take_succ_cons, List.take_zero, List.length_cons, List.length_nil, Nat.reduceAdd, Nat.reduceLeDiff, if_true, if_false, Bool.false_eq_true, ne_eq, String.reduceEq, not_false_eq_true, decide_eq_true_eq, isAggT3, isOneT3, sizeT3, eqD_int Tryd.underlying3]
  (repeat' split) <;> simp_all
@[go_sem] theorem eqU34 (a0 b0 : Int) (a1 b1 : Int) (a2 b2 : Int) : eqD Tryd.prog 8 34 (.agg [.int .i64 a0, .int .i64 a1, .int .i64 a2]) (.agg [.int .i64 b0, .int .i64 b1, .int .i64 b2]) = some (decide (a0 = b0) && decide (a1 = b1) && decide (a2 = b2)) := eqT34 6 a0 b0 a1 b1 a2 b2
attribute [go_sem] guardT34
theorem guardT35 : Tryd.prog.eqGuardType Tryd.prog.depth 35 = false := by kernel_rfl
theorem eqT35 (d : Nat) (a0 b0 : Int) (a1 b1 : Int) (a2 b2 : Int) : eqD Tryd.prog (d + 2) 35 (.agg [.int .i64 a0, .int .i64 a1, .int .i64 a2]) (.agg [.int .i64 b0, .int .i64 b1, .int .i64 b2]) = some (decide (a0 = b0) && decide (a1 = b1) && decide (a2 = b2)) := by
  rw [eqD_struct Tryd.underlying35 (by kernel_rfl)]
  simp only [eqFieldsD, takeD, List.getElem?_cons_zero, List.getElem?_cons_succ, List.drop_succ_cons, List.drop_zero, List.take_succ_cons, List.take_zero, List.length_cons, List.length_nil, Nat.reduceAdd, Nat.reduceLeDiff, if_true, if_false, Bool.false_eq_true, ne_eq, String.reduceEq, not_false_eq_true, decide_eq_true_eq, isAggT3, isOneT3, sizeT3, eqD_int Tryd.underlying3]
  (repeat' split) <;> simp_all
@[go_sem] theorem eqU35 (a0 b0 : Int) (a1 b1 : Int) (a2 b2 : Int) : eqD Tryd.prog 8 35 (.agg [.int .i64 a0, .int .i64 a1, .int .i64 a2]) (.agg [.int .i64 b0, .int .i64 b1, .int .i64 b2]) = some (decide (a0 = b0) && decide (a1 = b1) && decide (a2 = b2)) := eqT35 6 a0 b0 a1 b1 a2 b2
attribute [go_sem] guardT35
theorem guardT36 : Tryd.prog.eqGuardType Tryd.prog.depth 36 = false := by kernel_rfl
theorem eqT36 (d : Nat) (a0 b0 : ByteArray) (a1 b1 : Int) (a2 b2 : Int) (a3 b3 : Int) : eqD Tryd.prog (d + 3) 36 (.agg [.str a0, .int .i64 a1, .int .i64 a2, .int .i64 a3]) (.agg [.str b0, .int .i64 b1, .int .i64 b2, .int .i64 b3]) = some (decide (a0 = b0) && (decide (a1 = b1) && decide (a2 = b2) && decide (a3 = b3))) := by
  rw [eqD_struct Tryd.underlying36 (by kernel_rfl)]
  simp only [eqFieldsD, takeD, List.getElem?_cons_zero, List.getElem?_cons_succ, List.drop_succ_cons, List.drop_zero, List.take_succ_cons, List.take_zero, List.length_cons, List.length_nil, Nat.reduceAdd, Nat.reduceLeDiff, if_true, if_false, Bool.false_eq_true, ne_eq, String.reduceEq, not_false_eq_true, decide_eq_true_eq, isAggT9, isOneT9, sizeT9, eqD_str Tryd.underlying9, isAggT35, isOneT35, sizeT35, eqT35]
  (repeat' split) <;> simp_all
@[go_sem] theorem eqU36 (a0 b0 : ByteArray) (a1 b1 : Int) (a2 b2 : Int) (a3 b3 : Int) : eqD Tryd.prog 8 36 (.agg [.str a0, .int .i64 a1, .int .i64 a2, .int .i64 a3]) (.agg [.str b0, .int .i64 b1, .int .i64 b2, .int .i64 b3]) = some (decide (a0 = b0) && (decide (a1 = b1) && decide (a2 = b2) && decide (a3 = b3))) := eqT36 5 a0 b0 a1 b1 a2 b2 a3 b3
attribute [go_sem] guardT36
theorem guardT37 : Tryd.prog.eqGuardType Tryd.prog.depth 37 = false := by kernel_rfl
theorem eqT37 (d : Nat) (a0 b0 : ByteArray) (a1 b1 : Int) (a2 b2 : Int) (a3 b3 : Int) : eqD Tryd.prog (d + 3) 37 (.agg [.str a0, .int .i64 a1, .int .i64 a2, .int .i64 a3]) (.agg [.str b0, .int .i64 b1, .int .i64 b2, .int .i64 b3]) = some (decide (a0 = b0) && (decide (a1 = b1) && decide (a2 = b2) && decide (a3 = b3))) := by
  rw [eqD_struct Tryd.underlying37 (by kernel_rfl)]
  simp only [eqFieldsD, takeD, List.getElem?_cons_zero, List.getElem?_cons_succ, List.drop_succ_cons, List.drop_zero, List.take_succ_cons, List.take_zero, List.length_cons, List.length_nil, Nat.reduceAdd, Nat.reduceLeDiff, if_true, if_false, Bool.false_eq_true, ne_eq, String.reduceEq, not_false_eq_true, decide_eq_true_eq, isAggT9, isOneT9, sizeT9, eqD_str Tryd.underlying9, isAggT35, isOneT35, sizeT35, eqT35]
  (repeat' split) <;> simp_all
@[go_sem] theorem eqU37 (a0 b0 : ByteArray) (a1 b1 : Int) (a2 b2 : Int) (a3 b3 : Int) : eqD Tryd.prog 8 37 (.agg [.str a0, .int .i64 a1, .int .i64 a2, .int .i64 a3]) (.agg [.str b0, .int .i64 b1, .int .i64 b2, .int .i64 b3]) = some (decide (a0 = b0) && (decide (a1 = b1) && decide (a2 = b2) && decide (a3 = b3))) := eqT37 5 a0 b0 a1 b1 a2 b2 a3 b3
attribute [go_sem] guardT37
theorem guardT89 : Tryd.prog.eqGuardType Tryd.prog.depth 89 = false := by kernel_rfl
theorem eqT89 (d : Nat) (a0 b0 : Int) (a1 b1 : ByteArray) : eqD Tryd.prog (d + 2) 89 (.agg [.int .i64 a0, .str a1]) (.agg [.int .i64 b0, .str b1]) = some (decide (a0 = b0) && decide (a1 = b1)) := by
  rw [eqD_struct Tryd.underlying89 (by kernel_rfl)]
  simp only [eqFieldsD, takeD, List.getElem?_cons_zero, List.getElem?_cons_succ, List.drop_succ_cons, List.drop_zero, List.take_succ_cons, List.take_zero, List.length_cons, List.length_nil, Nat.reduceAdd, Nat.reduceLeDiff, if_true, if_false, Bool.false_eq_true, ne_eq, String.reduceEq, not_false_eq_true, decide_eq_true_eq, isAggT3, isOneT3, sizeT3, eqD_int Tryd.underlying3, isAggT9, isOneT9, sizeT9, eqD_str Tryd.underlying9]
  (repeat' split) <;> simp_all
@[go_sem] theorem eqU89 (a0 b0 : Int) (a1 b1 : ByteArray) : eqD Tryd.prog 8 89 (.agg [.int .i64 a0, .str a1]) (.agg [.int .i64 b0, .str b1]) = some (decide (a0 = b0) && decide (a1 = b1)) := eqT89 6 a0 b0 a1 b1
attribute [go_sem] guardT89
theorem guardT90 : Tryd.prog.eqGuardType Tryd.prog.depth 90 = false := by kernel_rfl
theorem eqT90 (d : Nat) (a0 b0 : Int) (a1 b1 : ByteArray) : eqD Tryd.prog (d + 2) 90 (.agg [.int .i64 a0, .str a1]) (.agg [.int .i64 b0, .str b1]) = some (decide (a0 = b0) && decide (a1 = b1)) := by
  rw [eqD_struct Tryd.underlying90 (by kernel_rfl)]
  simp only [eqFieldsD, takeD, List.getElem?_cons_zero, List.getElem?_cons_succ, List.drop_succ_cons, List.drop_zero, List.take_succ_cons, List.take_zero, List.length_cons, List.length_nil, Nat.reduceAdd, Nat.reduceLeDiff, if_true, if_false, Bool.false_eq_true, ne_eq, String.reduceEq, not_false_eq_true, decide_eq_true_eq, isAggT3, isOneT3, sizeT3, eqD_int Tryd.underlying3, isAggT9, isOneT9, sizeT9, eqD_str Tryd.underlying9]
  (repeat' split) <;> simp_all
@[go_sem] theorem eqU90 (a0 b0 : Int) (a1 b1 : ByteArray) : eqD Tryd.prog 8 90 (.agg [.int .i64 a0, .str a1]) (.agg [.int .i64 b0, .str b1]) = some (decide (a0 = b0) && decide (a1 = b1)) := eqT90 6 a0 b0 a1 b1
attribute [go_sem] guardT90
theorem mixed : Tryd.prog.follows .mixedOrders = true := by kernel_rfl

end Go.Proofs.YtkhjpcmpljpmjaaDoor.Facts
