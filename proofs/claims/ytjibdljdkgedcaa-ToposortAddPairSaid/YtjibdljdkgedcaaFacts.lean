/-
  The closed facts of the seat's type table that the abstract layer uses, printed by program. No condition.
-/
import Derived.Test.YtjibdljdkgedcaaAbs16
import Derived.Test.YtjibdljdkgedcaaProg
import Derived.KernelRfl
namespace Go.Proofs.Ytjibdljdkgedcaa.Facts
open Go.Proofs.Ytjibdljdkgedcaa.Abs
@[go_sem] theorem isAggT1 : isAggT Try.prog 1 = false := by kernel_rfl
@[go_sem] theorem isOneT1 : isOneT Try.prog 1 = true := by kernel_rfl
@[go_sem] theorem elemT1 : elemT Try.prog 1 = none := by kernel_rfl
@[go_sem] theorem arrT1 : arrT Try.prog 1 = none := by kernel_rfl
@[go_sem] theorem intT1 : intT Try.prog 1 = none := by kernel_rfl
@[go_sem] theorem strT1 : strT Try.prog 1 = false := by kernel_rfl
@[go_sem] theorem boolT1 : boolT Try.prog 1 = false := by kernel_rfl
@[go_sem] theorem mapT1 : mapT Try.prog 1 = none := by kernel_rfl
@[go_sem] theorem sizeT1 : sizeT Try.prog 1 = 1 := by kernel_rfl
@[go_sem] theorem bytesT1 : bytesT Try.prog 1 = 8 := by kernel_rfl
@[go_sem] theorem zeroT1 : zeroT Try.prog 1 = some [D.nfun] := by kernel_rfl
@[go_sem] theorem hasZero1 : hasZero Try.prog 1 = true := by kernel_rfl
@[go_sem] theorem isAggT2 : isAggT Try.prog 2 = false := by kernel_rfl
@[go_sem] theorem isOneT2 : isOneT Try.prog 2 = true := by kernel_rfl
@[go_sem] theorem elemT2 : elemT Try.prog 2 = none := by kernel_rfl
@[go_sem] theorem arrT2 : arrT Try.prog 2 = none := by kernel_rfl
@[go_sem] theorem intT2 : intT Try.prog 2 = some .i64 := by kernel_rfl
@[go_sem] theorem strT2 : strT Try.prog 2 = false := by kernel_rfl
@[go_sem] theorem boolT2 : boolT Try.prog 2 = false := by kernel_rfl
@[go_sem] theorem mapT2 : mapT Try.prog 2 = none := by kernel_rfl
@[go_sem] theorem sizeT2 : sizeT Try.prog 2 = 1 := by kernel_rfl
@[go_sem] theorem bytesT2 : bytesT Try.prog 2 = 8 := by kernel_rfl
@[go_sem] theorem zeroT2 : zeroT Try.prog 2 = some [D.int .i64 0] := by kernel_rfl
@[go_sem] theorem hasZero2 : hasZero Try.prog 2 = true := by kernel_rfl
@[go_sem] theorem isAggT3 : isAggT Try.prog 3 = false := by kernel_rfl
@[go_sem] theorem isOneT3 : isOneT Try.prog 3 = true := by kernel_rfl
@[go_sem] theorem elemT3 : elemT Try.prog 3 = none := by kernel_rfl
@[go_sem] theorem arrT3 : arrT Try.prog 3 = none := by kernel_rfl
@[go_sem] theorem intT3 : intT Try.prog 3 = some .i64 := by kernel_rfl
@[go_sem] theorem strT3 : strT Try.prog 3 = false := by kernel_rfl
@[go_sem] theorem boolT3 : boolT Try.prog 3 = false := by kernel_rfl
@[go_sem] theorem mapT3 : mapT Try.prog 3 = none := by kernel_rfl
@[go_sem] theorem sizeT3 : sizeT Try.prog 3 = 1 := by kernel_rfl
@[go_sem] theorem bytesT3 : bytesT Try.prog 3 = 8 := by kernel_rfl
@[go_sem] theorem zeroT3 : zeroT Try.prog 3 = some [D.int .i64 0] := by kernel_rfl
@[go_sem] theorem hasZero3 : hasZero Try.prog 3 = true := by kernel_rfl
@[go_sem] theorem isAggT4 : isAggT Try.prog 4 = false := by kernel_rfl
@[go_sem] theorem isOneT4 : isOneT Try.prog 4 = true := by kernel_rfl
@[go_sem] theorem elemT4 : elemT Try.prog 4 = none := by kernel_rfl
@[go_sem] theorem arrT4 : arrT Try.prog 4 = none := by kernel_rfl
@[go_sem] theorem intT4 : intT Try.prog 4 = none := by kernel_rfl
@[go_sem] theorem strT4 : strT Try.prog 4 = false := by kernel_rfl
@[go_sem] theorem boolT4 : boolT Try.prog 4 = true := by kernel_rfl
@[go_sem] theorem mapT4 : mapT Try.prog 4 = none := by kernel_rfl
@[go_sem] theorem sizeT4 : sizeT Try.prog 4 = 1 := by kernel_rfl
@[go_sem] theorem bytesT4 : bytesT Try.prog 4 = 1 := by kernel_rfl
@[go_sem] theorem zeroT4 : zeroT Try.prog 4 = some [D.bool false] := by kernel_rfl
@[go_sem] theorem hasZero4 : hasZero Try.prog 4 = true := by kernel_rfl
@[go_sem] theorem isAggT5 : isAggT Try.prog 5 = false := by kernel_rfl
@[go_sem] theorem isOneT5 : isOneT Try.prog 5 = true := by kernel_rfl
@[go_sem] theorem elemT5 : elemT Try.prog 5 = none := by kernel_rfl
@[go_sem] theorem arrT5 : arrT Try.prog 5 = none := by kernel_rfl
@[go_sem] theorem intT5 : intT Try.prog 5 = some .u8 := by kernel_rfl
@[go_sem] theorem strT5 : strT Try.prog 5 = false := by kernel_rfl
@[go_sem] theorem boolT5 : boolT Try.prog 5 = false := by kernel_rfl
@[go_sem] theorem mapT5 : mapT Try.prog 5 = none := by kernel_rfl
@[go_sem] theorem sizeT5 : sizeT Try.prog 5 = 1 := by kernel_rfl
@[go_sem] theorem bytesT5 : bytesT Try.prog 5 = 1 := by kernel_rfl
@[go_sem] theorem zeroT5 : zeroT Try.prog 5 = some [D.int .u8 0] := by kernel_rfl
@[go_sem] theorem hasZero5 : hasZero Try.prog 5 = true := by kernel_rfl
@[go_sem] theorem isAggT9 : isAggT Try.prog 9 = false := by kernel_rfl
@[go_sem] theorem isOneT9 : isOneT Try.prog 9 = true := by kernel_rfl
@[go_sem] theorem elemT9 : elemT Try.prog 9 = none := by kernel_rfl
@[go_sem] theorem arrT9 : arrT Try.prog 9 = none := by kernel_rfl
@[go_sem] theorem intT9 : intT Try.prog 9 = none := by kernel_rfl
@[go_sem] theorem strT9 : strT Try.prog 9 = true := by kernel_rfl
@[go_sem] theorem boolT9 : boolT Try.prog 9 = false := by kernel_rfl
@[go_sem] theorem mapT9 : mapT Try.prog 9 = none := by kernel_rfl
@[go_sem] theorem sizeT9 : sizeT Try.prog 9 = 1 := by kernel_rfl
@[go_sem] theorem bytesT9 : bytesT Try.prog 9 = 16 := by kernel_rfl
@[go_sem] theorem zeroT9 : zeroT Try.prog 9 = some [D.str ByteArray.empty] := by kernel_rfl
@[go_sem] theorem hasZero9 : hasZero Try.prog 9 = true := by kernel_rfl
@[go_sem] theorem isAggT12 : isAggT Try.prog 12 = false := by kernel_rfl
@[go_sem] theorem isOneT12 : isOneT Try.prog 12 = true := by kernel_rfl
@[go_sem] theorem elemT12 : elemT Try.prog 12 = none := by kernel_rfl
@[go_sem] theorem arrT12 : arrT Try.prog 12 = none := by kernel_rfl
@[go_sem] theorem intT12 : intT Try.prog 12 = some .u64 := by kernel_rfl
@[go_sem] theorem strT12 : strT Try.prog 12 = false := by kernel_rfl
@[go_sem] theorem boolT12 : boolT Try.prog 12 = false := by kernel_rfl
@[go_sem] theorem mapT12 : mapT Try.prog 12 = none := by kernel_rfl
@[go_sem] theorem sizeT12 : sizeT Try.prog 12 = 1 := by kernel_rfl
@[go_sem] theorem bytesT12 : bytesT Try.prog 12 = 8 := by kernel_rfl
@[go_sem] theorem zeroT12 : zeroT Try.prog 12 = some [D.int .u64 0] := by kernel_rfl
@[go_sem] theorem hasZero12 : hasZero Try.prog 12 = true := by kernel_rfl
@[go_sem] theorem isAggT13 : isAggT Try.prog 13 = true := by kernel_rfl
@[go_sem] theorem isOneT13 : isOneT Try.prog 13 = false := by kernel_rfl
@[go_sem] theorem elemT13 : elemT Try.prog 13 = none := by kernel_rfl
@[go_sem] theorem arrT13 : arrT Try.prog 13 = none := by kernel_rfl
@[go_sem] theorem intT13 : intT Try.prog 13 = none := by kernel_rfl
@[go_sem] theorem strT13 : strT Try.prog 13 = false := by kernel_rfl
@[go_sem] theorem boolT13 : boolT Try.prog 13 = false := by kernel_rfl
@[go_sem] theorem mapT13 : mapT Try.prog 13 = none := by kernel_rfl
@[go_sem] theorem sizeT13 : sizeT Try.prog 13 = 2 := by kernel_rfl
@[go_sem] theorem bytesT13 : bytesT Try.prog 13 = 24 := by kernel_rfl
@[go_sem] theorem fieldsOK13 : fieldsOK Try.prog 13 = true := by kernel_rfl
@[go_sem] theorem fieldT13_0 : fieldT Try.prog 13 0 = some (0, 9) := by kernel_rfl
@[go_sem] theorem fieldT13_1 : fieldT Try.prog 13 1 = some (1, 12) := by kernel_rfl
@[go_sem] theorem zeroT13 : zeroT Try.prog 13 = some [D.str ByteArray.empty, D.int .u64 0] := by kernel_rfl
@[go_sem] theorem hasZero13 : hasZero Try.prog 13 = true := by kernel_rfl
@[go_sem] theorem isAggT21 : isAggT Try.prog 21 = false := by kernel_rfl
@[go_sem] theorem isOneT21 : isOneT Try.prog 21 = true := by kernel_rfl
@[go_sem] theorem elemT21 : elemT Try.prog 21 = none := by kernel_rfl
@[go_sem] theorem arrT21 : arrT Try.prog 21 = none := by kernel_rfl
@[go_sem] theorem intT21 : intT Try.prog 21 = some .i32 := by kernel_rfl
@[go_sem] theorem strT21 : strT Try.prog 21 = false := by kernel_rfl
@[go_sem] theorem boolT21 : boolT Try.prog 21 = false := by kernel_rfl
@[go_sem] theorem mapT21 : mapT Try.prog 21 = none := by kernel_rfl
@[go_sem] theorem sizeT21 : sizeT Try.prog 21 = 1 := by kernel_rfl
@[go_sem] theorem bytesT21 : bytesT Try.prog 21 = 4 := by kernel_rfl
@[go_sem] theorem zeroT21 : zeroT Try.prog 21 = some [D.int .i32 0] := by kernel_rfl
@[go_sem] theorem hasZero21 : hasZero Try.prog 21 = true := by kernel_rfl
@[go_sem] theorem isAggT22 : isAggT Try.prog 22 = false := by kernel_rfl
@[go_sem] theorem isOneT22 : isOneT Try.prog 22 = true := by kernel_rfl
@[go_sem] theorem elemT22 : elemT Try.prog 22 = some 35 := by kernel_rfl
@[go_sem] theorem arrT22 : arrT Try.prog 22 = none := by kernel_rfl
@[go_sem] theorem intT22 : intT Try.prog 22 = none := by kernel_rfl
@[go_sem] theorem strT22 : strT Try.prog 22 = false := by kernel_rfl
@[go_sem] theorem boolT22 : boolT Try.prog 22 = false := by kernel_rfl
@[go_sem] theorem mapT22 : mapT Try.prog 22 = none := by kernel_rfl
@[go_sem] theorem sizeT22 : sizeT Try.prog 22 = 1 := by kernel_rfl
@[go_sem] theorem bytesT22 : bytesT Try.prog 22 = 24 := by kernel_rfl
@[go_sem] theorem zeroT22 : zeroT Try.prog 22 = some [D.nil] := by kernel_rfl
@[go_sem] theorem hasZero22 : hasZero Try.prog 22 = true := by kernel_rfl
@[go_sem] theorem isAggT23 : isAggT Try.prog 23 = false := by kernel_rfl
@[go_sem] theorem isOneT23 : isOneT Try.prog 23 = true := by kernel_rfl
@[go_sem] theorem elemT23 : elemT Try.prog 23 = none := by kernel_rfl
@[go_sem] theorem arrT23 : arrT Try.prog 23 = none := by kernel_rfl
@[go_sem] theorem intT23 : intT Try.prog 23 = none := by kernel_rfl
@[go_sem] theorem strT23 : strT Try.prog 23 = false := by kernel_rfl
@[go_sem] theorem boolT23 : boolT Try.prog 23 = false := by kernel_rfl
@[go_sem] theorem mapT23 : mapT Try.prog 23 = none := by kernel_rfl
@[go_sem] theorem sizeT23 : sizeT Try.prog 23 = 1 := by kernel_rfl
@[go_sem] theorem bytesT23 : bytesT Try.prog 23 = 8 := by kernel_rfl
@[go_sem] theorem zeroT23 : zeroT Try.prog 23 = some [D.nfun] := by kernel_rfl
@[go_sem] theorem hasZero23 : hasZero Try.prog 23 = true := by kernel_rfl
@[go_sem] theorem isAggT24 : isAggT Try.prog 24 = false := by kernel_rfl
@[go_sem] theorem isOneT24 : isOneT Try.prog 24 = true := by kernel_rfl
@[go_sem] theorem elemT24 : elemT Try.prog 24 = some 3 := by kernel_rfl
@[go_sem] theorem arrT24 : arrT Try.prog 24 = none := by kernel_rfl
@[go_sem] theorem intT24 : intT Try.prog 24 = none := by kernel_rfl
@[go_sem] theorem strT24 : strT Try.prog 24 = false := by kernel_rfl
@[go_sem] theorem boolT24 : boolT Try.prog 24 = false := by kernel_rfl
@[go_sem] theorem mapT24 : mapT Try.prog 24 = none := by kernel_rfl
@[go_sem] theorem sizeT24 : sizeT Try.prog 24 = 1 := by kernel_rfl
@[go_sem] theorem bytesT24 : bytesT Try.prog 24 = 24 := by kernel_rfl
@[go_sem] theorem zeroT24 : zeroT Try.prog 24 = some [D.nil] := by kernel_rfl
@[go_sem] theorem hasZero24 : hasZero Try.prog 24 = true := by kernel_rfl
@[go_sem] theorem isAggT25 : isAggT Try.prog 25 = false := by kernel_rfl
@[go_sem] theorem isOneT25 : isOneT Try.prog 25 = true := by kernel_rfl
@[go_sem] theorem elemT25 : elemT Try.prog 25 = none := by kernel_rfl
@[go_sem] theorem arrT25 : arrT Try.prog 25 = none := by kernel_rfl
@[go_sem] theorem intT25 : intT Try.prog 25 = some .i64 := by kernel_rfl
@[go_sem] theorem strT25 : strT Try.prog 25 = false := by kernel_rfl
@[go_sem] theorem boolT25 : boolT Try.prog 25 = false := by kernel_rfl
@[go_sem] theorem mapT25 : mapT Try.prog 25 = none := by kernel_rfl
@[go_sem] theorem sizeT25 : sizeT Try.prog 25 = 1 := by kernel_rfl
@[go_sem] theorem bytesT25 : bytesT Try.prog 25 = 8 := by kernel_rfl
@[go_sem] theorem zeroT25 : zeroT Try.prog 25 = some [D.int .i64 0] := by kernel_rfl
@[go_sem] theorem hasZero25 : hasZero Try.prog 25 = true := by kernel_rfl
@[go_sem] theorem isAggT27 : isAggT Try.prog 27 = false := by kernel_rfl
@[go_sem] theorem isOneT27 : isOneT Try.prog 27 = true := by kernel_rfl
@[go_sem] theorem elemT27 : elemT Try.prog 27 = none := by kernel_rfl
@[go_sem] theorem arrT27 : arrT Try.prog 27 = none := by kernel_rfl
@[go_sem] theorem intT27 : intT Try.prog 27 = none := by kernel_rfl
@[go_sem] theorem strT27 : strT Try.prog 27 = false := by kernel_rfl
@[go_sem] theorem boolT27 : boolT Try.prog 27 = false := by kernel_rfl
@[go_sem] theorem mapT27 : mapT Try.prog 27 = none := by kernel_rfl
@[go_sem] theorem sizeT27 : sizeT Try.prog 27 = 1 := by kernel_rfl
@[go_sem] theorem bytesT27 : bytesT Try.prog 27 = 8 := by kernel_rfl
@[go_sem] theorem zeroT27 : zeroT Try.prog 27 = some [D.nfun] := by kernel_rfl
@[go_sem] theorem hasZero27 : hasZero Try.prog 27 = true := by kernel_rfl
@[go_sem] theorem isAggT28 : isAggT Try.prog 28 = false := by kernel_rfl
@[go_sem] theorem isOneT28 : isOneT Try.prog 28 = true := by kernel_rfl
@[go_sem] theorem elemT28 : elemT Try.prog 28 = none := by kernel_rfl
@[go_sem] theorem arrT28 : arrT Try.prog 28 = none := by kernel_rfl
@[go_sem] theorem intT28 : intT Try.prog 28 = none := by kernel_rfl
@[go_sem] theorem strT28 : strT Try.prog 28 = false := by kernel_rfl
@[go_sem] theorem boolT28 : boolT Try.prog 28 = false := by kernel_rfl
@[go_sem] theorem mapT28 : mapT Try.prog 28 = none := by kernel_rfl
@[go_sem] theorem sizeT28 : sizeT Try.prog 28 = 1 := by kernel_rfl
@[go_sem] theorem bytesT28 : bytesT Try.prog 28 = 8 := by kernel_rfl
@[go_sem] theorem zeroT28 : zeroT Try.prog 28 = some [D.nfun] := by kernel_rfl
@[go_sem] theorem hasZero28 : hasZero Try.prog 28 = true := by kernel_rfl
@[go_sem] theorem isAggT30 : isAggT Try.prog 30 = false := by kernel_rfl
@[go_sem] theorem isOneT30 : isOneT Try.prog 30 = true := by kernel_rfl
@[go_sem] theorem elemT30 : elemT Try.prog 30 = none := by kernel_rfl
@[go_sem] theorem arrT30 : arrT Try.prog 30 = none := by kernel_rfl
@[go_sem] theorem intT30 : intT Try.prog 30 = none := by kernel_rfl
@[go_sem] theorem strT30 : strT Try.prog 30 = false := by kernel_rfl
@[go_sem] theorem boolT30 : boolT Try.prog 30 = false := by kernel_rfl
@[go_sem] theorem mapT30 : mapT Try.prog 30 = none := by kernel_rfl
@[go_sem] theorem sizeT30 : sizeT Try.prog 30 = 1 := by kernel_rfl
@[go_sem] theorem bytesT30 : bytesT Try.prog 30 = 8 := by kernel_rfl
@[go_sem] theorem zeroT30 : zeroT Try.prog 30 = some [D.nfun] := by kernel_rfl
@[go_sem] theorem hasZero30 : hasZero Try.prog 30 = true := by kernel_rfl
@[go_sem] theorem isAggT31 : isAggT Try.prog 31 = false := by kernel_rfl
@[go_sem] theorem isOneT31 : isOneT Try.prog 31 = true := by kernel_rfl
@[go_sem] theorem elemT31 : elemT Try.prog 31 = none := by kernel_rfl
@[go_sem] theorem arrT31 : arrT Try.prog 31 = none := by kernel_rfl
@[go_sem] theorem intT31 : intT Try.prog 31 = none := by kernel_rfl
@[go_sem] theorem strT31 : strT Try.prog 31 = false := by kernel_rfl
@[go_sem] theorem boolT31 : boolT Try.prog 31 = false := by kernel_rfl
@[go_sem] theorem mapT31 : mapT Try.prog 31 = none := by kernel_rfl
@[go_sem] theorem sizeT31 : sizeT Try.prog 31 = 1 := by kernel_rfl
@[go_sem] theorem bytesT31 : bytesT Try.prog 31 = 8 := by kernel_rfl
@[go_sem] theorem zeroT31 : zeroT Try.prog 31 = some [D.nfun] := by kernel_rfl
@[go_sem] theorem hasZero31 : hasZero Try.prog 31 = true := by kernel_rfl
@[go_sem] theorem isAggT32 : isAggT Try.prog 32 = false := by kernel_rfl
@[go_sem] theorem isOneT32 : isOneT Try.prog 32 = true := by kernel_rfl
@[go_sem] theorem elemT32 : elemT Try.prog 32 = none := by kernel_rfl
@[go_sem] theorem arrT32 : arrT Try.prog 32 = none := by kernel_rfl
@[go_sem] theorem intT32 : intT Try.prog 32 = none := by kernel_rfl
@[go_sem] theorem strT32 : strT Try.prog 32 = false := by kernel_rfl
@[go_sem] theorem boolT32 : boolT Try.prog 32 = false := by kernel_rfl
@[go_sem] theorem mapT32 : mapT Try.prog 32 = none := by kernel_rfl
@[go_sem] theorem sizeT32 : sizeT Try.prog 32 = 1 := by kernel_rfl
@[go_sem] theorem bytesT32 : bytesT Try.prog 32 = 8 := by kernel_rfl
@[go_sem] theorem zeroT32 : zeroT Try.prog 32 = some [D.nfun] := by kernel_rfl
@[go_sem] theorem hasZero32 : hasZero Try.prog 32 = true := by kernel_rfl
@[go_sem] theorem isAggT33 : isAggT Try.prog 33 = false := by kernel_rfl
@[go_sem] theorem isOneT33 : isOneT Try.prog 33 = true := by kernel_rfl
@[go_sem] theorem elemT33 : elemT Try.prog 33 = none := by kernel_rfl
@[go_sem] theorem arrT33 : arrT Try.prog 33 = none := by kernel_rfl
@[go_sem] theorem intT33 : intT Try.prog 33 = none := by kernel_rfl
@[go_sem] theorem strT33 : strT Try.prog 33 = false := by kernel_rfl
@[go_sem] theorem boolT33 : boolT Try.prog 33 = false := by kernel_rfl
@[go_sem] theorem mapT33 : mapT Try.prog 33 = none := by kernel_rfl
@[go_sem] theorem sizeT33 : sizeT Try.prog 33 = 1 := by kernel_rfl
@[go_sem] theorem bytesT33 : bytesT Try.prog 33 = 8 := by kernel_rfl
@[go_sem] theorem zeroT33 : zeroT Try.prog 33 = some [D.nfun] := by kernel_rfl
@[go_sem] theorem hasZero33 : hasZero Try.prog 33 = true := by kernel_rfl
@[go_sem] theorem isAggT34 : isAggT Try.prog 34 = true := by kernel_rfl
@[go_sem] theorem isOneT34 : isOneT Try.prog 34 = false := by kernel_rfl
@[go_sem] theorem elemT34 : elemT Try.prog 34 = none := by kernel_rfl
@[go_sem] theorem arrT34 : arrT Try.prog 34 = none := by kernel_rfl
@[go_sem] theorem intT34 : intT Try.prog 34 = none := by kernel_rfl
@[go_sem] theorem strT34 : strT Try.prog 34 = false := by kernel_rfl
@[go_sem] theorem boolT34 : boolT Try.prog 34 = false := by kernel_rfl
@[go_sem] theorem mapT34 : mapT Try.prog 34 = none := by kernel_rfl
@[go_sem] theorem sizeT34 : sizeT Try.prog 34 = 2 := by kernel_rfl
@[go_sem] theorem bytesT34 : bytesT Try.prog 34 = 16 := by kernel_rfl
@[go_sem] theorem fieldsOK34 : fieldsOK Try.prog 34 = true := by kernel_rfl
@[go_sem] theorem fieldT34_0 : fieldT Try.prog 34 0 = some (0, 3) := by kernel_rfl
@[go_sem] theorem fieldT34_1 : fieldT Try.prog 34 1 = some (1, 3) := by kernel_rfl
@[go_sem] theorem zeroT34 : zeroT Try.prog 34 = some [D.int .i64 0, D.int .i64 0] := by kernel_rfl
@[go_sem] theorem hasZero34 : hasZero Try.prog 34 = true := by kernel_rfl
@[go_sem] theorem isAggT35 : isAggT Try.prog 35 = true := by kernel_rfl
@[go_sem] theorem isOneT35 : isOneT Try.prog 35 = false := by kernel_rfl
@[go_sem] theorem elemT35 : elemT Try.prog 35 = none := by kernel_rfl
@[go_sem] theorem arrT35 : arrT Try.prog 35 = none := by kernel_rfl
@[go_sem] theorem intT35 : intT Try.prog 35 = none := by kernel_rfl
@[go_sem] theorem strT35 : strT Try.prog 35 = false := by kernel_rfl
@[go_sem] theorem boolT35 : boolT Try.prog 35 = false := by kernel_rfl
@[go_sem] theorem mapT35 : mapT Try.prog 35 = none := by kernel_rfl
@[go_sem] theorem sizeT35 : sizeT Try.prog 35 = 2 := by kernel_rfl
@[go_sem] theorem bytesT35 : bytesT Try.prog 35 = 16 := by kernel_rfl
@[go_sem] theorem fieldsOK35 : fieldsOK Try.prog 35 = true := by kernel_rfl
@[go_sem] theorem fieldT35_0 : fieldT Try.prog 35 0 = some (0, 3) := by kernel_rfl
@[go_sem] theorem fieldT35_1 : fieldT Try.prog 35 1 = some (1, 3) := by kernel_rfl
@[go_sem] theorem zeroT35 : zeroT Try.prog 35 = some [D.int .i64 0, D.int .i64 0] := by kernel_rfl
@[go_sem] theorem hasZero35 : hasZero Try.prog 35 = true := by kernel_rfl
@[go_sem] theorem isAggT36 : isAggT Try.prog 36 = false := by kernel_rfl
@[go_sem] theorem isOneT36 : isOneT Try.prog 36 = true := by kernel_rfl
@[go_sem] theorem elemT36 : elemT Try.prog 36 = none := by kernel_rfl
@[go_sem] theorem arrT36 : arrT Try.prog 36 = none := by kernel_rfl
@[go_sem] theorem intT36 : intT Try.prog 36 = none := by kernel_rfl
@[go_sem] theorem strT36 : strT Try.prog 36 = false := by kernel_rfl
@[go_sem] theorem boolT36 : boolT Try.prog 36 = false := by kernel_rfl
@[go_sem] theorem mapT36 : mapT Try.prog 36 = none := by kernel_rfl
@[go_sem] theorem sizeT36 : sizeT Try.prog 36 = 1 := by kernel_rfl
@[go_sem] theorem bytesT36 : bytesT Try.prog 36 = 8 := by kernel_rfl
@[go_sem] theorem zeroT36 : zeroT Try.prog 36 = some [D.nfun] := by kernel_rfl
@[go_sem] theorem hasZero36 : hasZero Try.prog 36 = true := by kernel_rfl
@[go_sem] theorem isAggT38 : isAggT Try.prog 38 = false := by kernel_rfl
@[go_sem] theorem isOneT38 : isOneT Try.prog 38 = true := by kernel_rfl
@[go_sem] theorem elemT38 : elemT Try.prog 38 = none := by kernel_rfl
@[go_sem] theorem arrT38 : arrT Try.prog 38 = none := by kernel_rfl
@[go_sem] theorem intT38 : intT Try.prog 38 = none := by kernel_rfl
@[go_sem] theorem strT38 : strT Try.prog 38 = false := by kernel_rfl
@[go_sem] theorem boolT38 : boolT Try.prog 38 = false := by kernel_rfl
@[go_sem] theorem mapT38 : mapT Try.prog 38 = none := by kernel_rfl
@[go_sem] theorem sizeT38 : sizeT Try.prog 38 = 1 := by kernel_rfl
@[go_sem] theorem bytesT38 : bytesT Try.prog 38 = 8 := by kernel_rfl
@[go_sem] theorem zeroT38 : zeroT Try.prog 38 = some [D.nfun] := by kernel_rfl
@[go_sem] theorem hasZero38 : hasZero Try.prog 38 = true := by kernel_rfl
@[go_sem] theorem isAggT39 : isAggT Try.prog 39 = false := by kernel_rfl
@[go_sem] theorem isOneT39 : isOneT Try.prog 39 = true := by kernel_rfl
@[go_sem] theorem elemT39 : elemT Try.prog 39 = none := by kernel_rfl
@[go_sem] theorem arrT39 : arrT Try.prog 39 = none := by kernel_rfl
@[go_sem] theorem intT39 : intT Try.prog 39 = none := by kernel_rfl
@[go_sem] theorem strT39 : strT Try.prog 39 = false := by kernel_rfl
@[go_sem] theorem boolT39 : boolT Try.prog 39 = false := by kernel_rfl
@[go_sem] theorem mapT39 : mapT Try.prog 39 = none := by kernel_rfl
@[go_sem] theorem sizeT39 : sizeT Try.prog 39 = 1 := by kernel_rfl
@[go_sem] theorem bytesT39 : bytesT Try.prog 39 = 8 := by kernel_rfl
@[go_sem] theorem zeroT39 : zeroT Try.prog 39 = some [D.nfun] := by kernel_rfl
@[go_sem] theorem hasZero39 : hasZero Try.prog 39 = true := by kernel_rfl
@[go_sem] theorem isAggT40 : isAggT Try.prog 40 = false := by kernel_rfl
@[go_sem] theorem isOneT40 : isOneT Try.prog 40 = true := by kernel_rfl
@[go_sem] theorem elemT40 : elemT Try.prog 40 = none := by kernel_rfl
@[go_sem] theorem arrT40 : arrT Try.prog 40 = none := by kernel_rfl
@[go_sem] theorem intT40 : intT Try.prog 40 = none := by kernel_rfl
@[go_sem] theorem strT40 : strT Try.prog 40 = false := by kernel_rfl
@[go_sem] theorem boolT40 : boolT Try.prog 40 = false := by kernel_rfl
@[go_sem] theorem mapT40 : mapT Try.prog 40 = none := by kernel_rfl
@[go_sem] theorem sizeT40 : sizeT Try.prog 40 = 1 := by kernel_rfl
@[go_sem] theorem bytesT40 : bytesT Try.prog 40 = 8 := by kernel_rfl
@[go_sem] theorem zeroT40 : zeroT Try.prog 40 = some [D.nfun] := by kernel_rfl
@[go_sem] theorem hasZero40 : hasZero Try.prog 40 = true := by kernel_rfl
@[go_sem] theorem isAggT41 : isAggT Try.prog 41 = false := by kernel_rfl
@[go_sem] theorem isOneT41 : isOneT Try.prog 41 = true := by kernel_rfl
@[go_sem] theorem elemT41 : elemT Try.prog 41 = none := by kernel_rfl
@[go_sem] theorem arrT41 : arrT Try.prog 41 = none := by kernel_rfl
@[go_sem] theorem intT41 : intT Try.prog 41 = none := by kernel_rfl
@[go_sem] theorem strT41 : strT Try.prog 41 = false := by kernel_rfl
@[go_sem] theorem boolT41 : boolT Try.prog 41 = false := by kernel_rfl
@[go_sem] theorem mapT41 : mapT Try.prog 41 = none := by kernel_rfl
@[go_sem] theorem sizeT41 : sizeT Try.prog 41 = 1 := by kernel_rfl
@[go_sem] theorem bytesT41 : bytesT Try.prog 41 = 8 := by kernel_rfl
@[go_sem] theorem zeroT41 : zeroT Try.prog 41 = some [D.nfun] := by kernel_rfl
@[go_sem] theorem hasZero41 : hasZero Try.prog 41 = true := by kernel_rfl
@[go_sem] theorem isAggT42 : isAggT Try.prog 42 = false := by kernel_rfl
@[go_sem] theorem isOneT42 : isOneT Try.prog 42 = true := by kernel_rfl
@[go_sem] theorem elemT42 : elemT Try.prog 42 = none := by kernel_rfl
@[go_sem] theorem arrT42 : arrT Try.prog 42 = none := by kernel_rfl
@[go_sem] theorem intT42 : intT Try.prog 42 = none := by kernel_rfl
@[go_sem] theorem strT42 : strT Try.prog 42 = false := by kernel_rfl
@[go_sem] theorem boolT42 : boolT Try.prog 42 = false := by kernel_rfl
@[go_sem] theorem mapT42 : mapT Try.prog 42 = none := by kernel_rfl
@[go_sem] theorem sizeT42 : sizeT Try.prog 42 = 1 := by kernel_rfl
@[go_sem] theorem bytesT42 : bytesT Try.prog 42 = 8 := by kernel_rfl
@[go_sem] theorem zeroT42 : zeroT Try.prog 42 = some [D.nfun] := by kernel_rfl
@[go_sem] theorem hasZero42 : hasZero Try.prog 42 = true := by kernel_rfl
@[go_sem] theorem isAggT43 : isAggT Try.prog 43 = false := by kernel_rfl
@[go_sem] theorem isOneT43 : isOneT Try.prog 43 = true := by kernel_rfl
@[go_sem] theorem elemT43 : elemT Try.prog 43 = none := by kernel_rfl
@[go_sem] theorem arrT43 : arrT Try.prog 43 = none := by kernel_rfl
@[go_sem] theorem intT43 : intT Try.prog 43 = none := by kernel_rfl
@[go_sem] theorem strT43 : strT Try.prog 43 = false := by kernel_rfl
@[go_sem] theorem boolT43 : boolT Try.prog 43 = false := by kernel_rfl
@[go_sem] theorem mapT43 : mapT Try.prog 43 = none := by kernel_rfl
@[go_sem] theorem sizeT43 : sizeT Try.prog 43 = 1 := by kernel_rfl
@[go_sem] theorem bytesT43 : bytesT Try.prog 43 = 8 := by kernel_rfl
@[go_sem] theorem zeroT43 : zeroT Try.prog 43 = some [D.nfun] := by kernel_rfl
@[go_sem] theorem hasZero43 : hasZero Try.prog 43 = true := by kernel_rfl
@[go_sem] theorem isAggT44 : isAggT Try.prog 44 = false := by kernel_rfl
@[go_sem] theorem isOneT44 : isOneT Try.prog 44 = true := by kernel_rfl
@[go_sem] theorem elemT44 : elemT Try.prog 44 = none := by kernel_rfl
@[go_sem] theorem arrT44 : arrT Try.prog 44 = none := by kernel_rfl
@[go_sem] theorem intT44 : intT Try.prog 44 = none := by kernel_rfl
@[go_sem] theorem strT44 : strT Try.prog 44 = false := by kernel_rfl
@[go_sem] theorem boolT44 : boolT Try.prog 44 = false := by kernel_rfl
@[go_sem] theorem mapT44 : mapT Try.prog 44 = none := by kernel_rfl
@[go_sem] theorem sizeT44 : sizeT Try.prog 44 = 1 := by kernel_rfl
@[go_sem] theorem bytesT44 : bytesT Try.prog 44 = 8 := by kernel_rfl
@[go_sem] theorem zeroT44 : zeroT Try.prog 44 = some [D.nfun] := by kernel_rfl
@[go_sem] theorem hasZero44 : hasZero Try.prog 44 = true := by kernel_rfl
@[go_sem] theorem isAggT45 : isAggT Try.prog 45 = false := by kernel_rfl
@[go_sem] theorem isOneT45 : isOneT Try.prog 45 = true := by kernel_rfl
@[go_sem] theorem elemT45 : elemT Try.prog 45 = none := by kernel_rfl
@[go_sem] theorem arrT45 : arrT Try.prog 45 = none := by kernel_rfl
@[go_sem] theorem intT45 : intT Try.prog 45 = none := by kernel_rfl
@[go_sem] theorem strT45 : strT Try.prog 45 = false := by kernel_rfl
@[go_sem] theorem boolT45 : boolT Try.prog 45 = false := by kernel_rfl
@[go_sem] theorem mapT45 : mapT Try.prog 45 = none := by kernel_rfl
@[go_sem] theorem sizeT45 : sizeT Try.prog 45 = 1 := by kernel_rfl
@[go_sem] theorem bytesT45 : bytesT Try.prog 45 = 8 := by kernel_rfl
@[go_sem] theorem zeroT45 : zeroT Try.prog 45 = some [D.nfun] := by kernel_rfl
@[go_sem] theorem hasZero45 : hasZero Try.prog 45 = true := by kernel_rfl
@[go_sem] theorem isAggT46 : isAggT Try.prog 46 = false := by kernel_rfl
@[go_sem] theorem isOneT46 : isOneT Try.prog 46 = true := by kernel_rfl
@[go_sem] theorem elemT46 : elemT Try.prog 46 = none := by kernel_rfl
@[go_sem] theorem arrT46 : arrT Try.prog 46 = none := by kernel_rfl
@[go_sem] theorem intT46 : intT Try.prog 46 = none := by kernel_rfl
@[go_sem] theorem strT46 : strT Try.prog 46 = false := by kernel_rfl
@[go_sem] theorem boolT46 : boolT Try.prog 46 = false := by kernel_rfl
@[go_sem] theorem mapT46 : mapT Try.prog 46 = none := by kernel_rfl
@[go_sem] theorem sizeT46 : sizeT Try.prog 46 = 1 := by kernel_rfl
@[go_sem] theorem bytesT46 : bytesT Try.prog 46 = 8 := by kernel_rfl
@[go_sem] theorem zeroT46 : zeroT Try.prog 46 = some [D.nfun] := by kernel_rfl
@[go_sem] theorem hasZero46 : hasZero Try.prog 46 = true := by kernel_rfl
@[go_sem] theorem isAggT47 : isAggT Try.prog 47 = false := by kernel_rfl
@[go_sem] theorem isOneT47 : isOneT Try.prog 47 = true := by kernel_rfl
@[go_sem] theorem elemT47 : elemT Try.prog 47 = none := by kernel_rfl
@[go_sem] theorem arrT47 : arrT Try.prog 47 = none := by kernel_rfl
@[go_sem] theorem intT47 : intT Try.prog 47 = none := by kernel_rfl
@[go_sem] theorem strT47 : strT Try.prog 47 = false := by kernel_rfl
@[go_sem] theorem boolT47 : boolT Try.prog 47 = false := by kernel_rfl
@[go_sem] theorem mapT47 : mapT Try.prog 47 = none := by kernel_rfl
@[go_sem] theorem sizeT47 : sizeT Try.prog 47 = 1 := by kernel_rfl
@[go_sem] theorem bytesT47 : bytesT Try.prog 47 = 8 := by kernel_rfl
@[go_sem] theorem zeroT47 : zeroT Try.prog 47 = some [D.nfun] := by kernel_rfl
@[go_sem] theorem hasZero47 : hasZero Try.prog 47 = true := by kernel_rfl
@[go_sem] theorem isAggT48 : isAggT Try.prog 48 = false := by kernel_rfl
@[go_sem] theorem isOneT48 : isOneT Try.prog 48 = true := by kernel_rfl
@[go_sem] theorem elemT48 : elemT Try.prog 48 = none := by kernel_rfl
@[go_sem] theorem arrT48 : arrT Try.prog 48 = none := by kernel_rfl
@[go_sem] theorem intT48 : intT Try.prog 48 = some .u64 := by kernel_rfl
@[go_sem] theorem strT48 : strT Try.prog 48 = false := by kernel_rfl
@[go_sem] theorem boolT48 : boolT Try.prog 48 = false := by kernel_rfl
@[go_sem] theorem mapT48 : mapT Try.prog 48 = none := by kernel_rfl
@[go_sem] theorem sizeT48 : sizeT Try.prog 48 = 1 := by kernel_rfl
@[go_sem] theorem bytesT48 : bytesT Try.prog 48 = 8 := by kernel_rfl
@[go_sem] theorem zeroT48 : zeroT Try.prog 48 = some [D.int .u64 0] := by kernel_rfl
@[go_sem] theorem hasZero48 : hasZero Try.prog 48 = true := by kernel_rfl
@[go_sem] theorem isAggT49 : isAggT Try.prog 49 = true := by kernel_rfl
@[go_sem] theorem isOneT49 : isOneT Try.prog 49 = false := by kernel_rfl
@[go_sem] theorem elemT49 : elemT Try.prog 49 = none := by kernel_rfl
@[go_sem] theorem arrT49 : arrT Try.prog 49 = some (16, 48) := by kernel_rfl
@[go_sem] theorem intT49 : intT Try.prog 49 = none := by kernel_rfl
@[go_sem] theorem strT49 : strT Try.prog 49 = false := by kernel_rfl
@[go_sem] theorem boolT49 : boolT Try.prog 49 = false := by kernel_rfl
@[go_sem] theorem mapT49 : mapT Try.prog 49 = none := by kernel_rfl
@[go_sem] theorem sizeT49 : sizeT Try.prog 49 = 16 := by kernel_rfl
@[go_sem] theorem bytesT49 : bytesT Try.prog 49 = 128 := by kernel_rfl
theorem zeroT49 : zeroT Try.prog 49 = some [D.int .u64 0, D.int .u64 0, D.int .u64 0, D.int .u64 0, D.int .u64 0, D.int .u64 0, D.int .u64 0, D.int .u64 0, D.int .u64 0, D.int .u64 0, D.int .u64 0, D.int .u64 0, D.int .u64 0, D.int .u64 0, D.int .u64 0, D.int .u64 0] := by kernel_rfl
@[go_sem] theorem hasZero49 : hasZero Try.prog 49 = true := by kernel_rfl
@[go_sem] theorem under49 : Try.prog.underlying 49 = some (.array 16 48) := by kernel_rfl
@[go_sem] theorem isAggT50 : isAggT Try.prog 50 = true := by kernel_rfl
@[go_sem] theorem isOneT50 : isOneT Try.prog 50 = false := by kernel_rfl
@[go_sem] theorem elemT50 : elemT Try.prog 50 = none := by kernel_rfl
@[go_sem] theorem arrT50 : arrT Try.prog 50 = none := by kernel_rfl
@[go_sem] theorem intT50 : intT Try.prog 50 = none := by kernel_rfl
@[go_sem] theorem strT50 : strT Try.prog 50 = false := by kernel_rfl
@[go_sem] theorem boolT50 : boolT Try.prog 50 = false := by kernel_rfl
@[go_sem] theorem mapT50 : mapT Try.prog 50 = none := by kernel_rfl
@[go_sem] theorem sizeT50 : sizeT Try.prog 50 = 17 := by kernel_rfl
@[go_sem] theorem bytesT50 : bytesT Try.prog 50 = 136 := by kernel_rfl
@[go_sem] theorem fieldsOK50 : fieldsOK Try.prog 50 = true := by kernel_rfl
@[go_sem] theorem fieldT50_0 : fieldT Try.prog 50 0 = some (0, 3) := by kernel_rfl
@[go_sem] theorem fieldT50_1 : fieldT Try.prog 50 1 = some (1, 49) := by kernel_rfl
theorem zeroT50 : zeroT Try.prog 50 = some [D.int .i64 0, D.int .u64 0, D.int .u64 0, D.int .u64 0, D.int .u64 0, D.int .u64 0, D.int .u64 0, D.int .u64 0, D.int .u64 0, D.int .u64 0, D.int .u64 0, D.int .u64 0, D.int .u64 0, D.int .u64 0, D.int .u64 0, D.int .u64 0, D.int .u64 0] := by kernel_rfl
@[go_sem] theorem hasZero50 : hasZero Try.prog 50 = true := by kernel_rfl
@[go_sem] theorem isAggT51 : isAggT Try.prog 51 = true := by kernel_rfl
@[go_sem] theorem isOneT51 : isOneT Try.prog 51 = false := by kernel_rfl
@[go_sem] theorem elemT51 : elemT Try.prog 51 = none := by kernel_rfl
@[go_sem] theorem arrT51 : arrT Try.prog 51 = none := by kernel_rfl
@[go_sem] theorem intT51 : intT Try.prog 51 = none := by kernel_rfl
@[go_sem] theorem strT51 : strT Try.prog 51 = false := by kernel_rfl
@[go_sem] theorem boolT51 : boolT Try.prog 51 = false := by kernel_rfl
@[go_sem] theorem mapT51 : mapT Try.prog 51 = none := by kernel_rfl
@[go_sem] theorem sizeT51 : sizeT Try.prog 51 = 17 := by kernel_rfl
@[go_sem] theorem bytesT51 : bytesT Try.prog 51 = 136 := by kernel_rfl
@[go_sem] theorem fieldsOK51 : fieldsOK Try.prog 51 = true := by kernel_rfl
@[go_sem] theorem fieldT51_0 : fieldT Try.prog 51 0 = some (0, 3) := by kernel_rfl
@[go_sem] theorem fieldT51_1 : fieldT Try.prog 51 1 = some (1, 49) := by kernel_rfl
theorem zeroT51 : zeroT Try.prog 51 = some [D.int .i64 0, D.int .u64 0, D.int .u64 0, D.int .u64 0, D.int .u64 0, D.int .u64 0, D.int .u64 0, D.int .u64 0, D.int .u64 0, D.int .u64 0, D.int .u64 0, D.int .u64 0, D.int .u64 0, D.int .u64 0, D.int .u64 0, D.int .u64 0, D.int .u64 0] := by kernel_rfl
@[go_sem] theorem hasZero51 : hasZero Try.prog 51 = true := by kernel_rfl
@[go_sem] theorem isAggT53 : isAggT Try.prog 53 = false := by kernel_rfl
@[go_sem] theorem isOneT53 : isOneT Try.prog 53 = true := by kernel_rfl
@[go_sem] theorem elemT53 : elemT Try.prog 53 = none := by kernel_rfl
@[go_sem] theorem arrT53 : arrT Try.prog 53 = none := by kernel_rfl
@[go_sem] theorem intT53 : intT Try.prog 53 = none := by kernel_rfl
@[go_sem] theorem strT53 : strT Try.prog 53 = false := by kernel_rfl
@[go_sem] theorem boolT53 : boolT Try.prog 53 = false := by kernel_rfl
@[go_sem] theorem mapT53 : mapT Try.prog 53 = none := by kernel_rfl
@[go_sem] theorem sizeT53 : sizeT Try.prog 53 = 1 := by kernel_rfl
@[go_sem] theorem bytesT53 : bytesT Try.prog 53 = 8 := by kernel_rfl
@[go_sem] theorem zeroT53 : zeroT Try.prog 53 = some [D.nfun] := by kernel_rfl
@[go_sem] theorem hasZero53 : hasZero Try.prog 53 = true := by kernel_rfl
@[go_sem] theorem isAggT54 : isAggT Try.prog 54 = false := by kernel_rfl
@[go_sem] theorem isOneT54 : isOneT Try.prog 54 = true := by kernel_rfl
@[go_sem] theorem elemT54 : elemT Try.prog 54 = none := by kernel_rfl
@[go_sem] theorem arrT54 : arrT Try.prog 54 = none := by kernel_rfl
@[go_sem] theorem intT54 : intT Try.prog 54 = none := by kernel_rfl
@[go_sem] theorem strT54 : strT Try.prog 54 = false := by kernel_rfl
@[go_sem] theorem boolT54 : boolT Try.prog 54 = false := by kernel_rfl
@[go_sem] theorem mapT54 : mapT Try.prog 54 = none := by kernel_rfl
@[go_sem] theorem sizeT54 : sizeT Try.prog 54 = 1 := by kernel_rfl
@[go_sem] theorem bytesT54 : bytesT Try.prog 54 = 8 := by kernel_rfl
@[go_sem] theorem zeroT54 : zeroT Try.prog 54 = some [D.nfun] := by kernel_rfl
@[go_sem] theorem hasZero54 : hasZero Try.prog 54 = true := by kernel_rfl
@[go_sem] theorem isAggT55 : isAggT Try.prog 55 = false := by kernel_rfl
@[go_sem] theorem isOneT55 : isOneT Try.prog 55 = true := by kernel_rfl
@[go_sem] theorem elemT55 : elemT Try.prog 55 = none := by kernel_rfl
@[go_sem] theorem arrT55 : arrT Try.prog 55 = none := by kernel_rfl
@[go_sem] theorem intT55 : intT Try.prog 55 = none := by kernel_rfl
@[go_sem] theorem strT55 : strT Try.prog 55 = false := by kernel_rfl
@[go_sem] theorem boolT55 : boolT Try.prog 55 = false := by kernel_rfl
@[go_sem] theorem mapT55 : mapT Try.prog 55 = none := by kernel_rfl
@[go_sem] theorem sizeT55 : sizeT Try.prog 55 = 1 := by kernel_rfl
@[go_sem] theorem bytesT55 : bytesT Try.prog 55 = 8 := by kernel_rfl
@[go_sem] theorem zeroT55 : zeroT Try.prog 55 = some [D.nfun] := by kernel_rfl
@[go_sem] theorem hasZero55 : hasZero Try.prog 55 = true := by kernel_rfl
@[go_sem] theorem isAggT56 : isAggT Try.prog 56 = true := by kernel_rfl
@[go_sem] theorem isOneT56 : isOneT Try.prog 56 = false := by kernel_rfl
@[go_sem] theorem elemT56 : elemT Try.prog 56 = none := by kernel_rfl
@[go_sem] theorem arrT56 : arrT Try.prog 56 = some (16, 3) := by kernel_rfl
@[go_sem] theorem intT56 : intT Try.prog 56 = none := by kernel_rfl
@[go_sem] theorem strT56 : strT Try.prog 56 = false := by kernel_rfl
@[go_sem] theorem boolT56 : boolT Try.prog 56 = false := by kernel_rfl
@[go_sem] theorem mapT56 : mapT Try.prog 56 = none := by kernel_rfl
@[go_sem] theorem sizeT56 : sizeT Try.prog 56 = 16 := by kernel_rfl
@[go_sem] theorem bytesT56 : bytesT Try.prog 56 = 128 := by kernel_rfl
theorem zeroT56 : zeroT Try.prog 56 = some [D.int .i64 0, D.int .i64 0, D.int .i64 0, D.int .i64 0, D.int .i64 0, D.int .i64 0, D.int .i64 0, D.int .i64 0, D.int .i64 0, D.int .i64 0, D.int .i64 0, D.int .i64 0, D.int .i64 0, D.int .i64 0, D.int .i64 0, D.int .i64 0] := by kernel_rfl
@[go_sem] theorem hasZero56 : hasZero Try.prog 56 = true := by kernel_rfl
@[go_sem] theorem under56 : Try.prog.underlying 56 = some (.array 16 3) := by kernel_rfl
@[go_sem] theorem isAggT57 : isAggT Try.prog 57 = true := by kernel_rfl
@[go_sem] theorem isOneT57 : isOneT Try.prog 57 = false := by kernel_rfl
@[go_sem] theorem elemT57 : elemT Try.prog 57 = none := by kernel_rfl
@[go_sem] theorem arrT57 : arrT Try.prog 57 = some (16, 56) := by kernel_rfl
@[go_sem] theorem intT57 : intT Try.prog 57 = none := by kernel_rfl
@[go_sem] theorem strT57 : strT Try.prog 57 = false := by kernel_rfl
@[go_sem] theorem boolT57 : boolT Try.prog 57 = false := by kernel_rfl
@[go_sem] theorem mapT57 : mapT Try.prog 57 = none := by kernel_rfl
@[go_sem] theorem sizeT57 : sizeT Try.prog 57 = 256 := by kernel_rfl
@[go_sem] theorem bytesT57 : bytesT Try.prog 57 = 2048 := by kernel_rfl
@[go_sem] theorem under57 : Try.prog.underlying 57 = some (.array 16 56) := by kernel_rfl
@[go_sem] theorem isAggT58 : isAggT Try.prog 58 = false := by kernel_rfl
@[go_sem] theorem isOneT58 : isOneT Try.prog 58 = true := by kernel_rfl
@[go_sem] theorem elemT58 : elemT Try.prog 58 = none := by kernel_rfl
@[go_sem] theorem arrT58 : arrT Try.prog 58 = none := by kernel_rfl
@[go_sem] theorem intT58 : intT Try.prog 58 = none := by kernel_rfl
@[go_sem] theorem strT58 : strT Try.prog 58 = false := by kernel_rfl
@[go_sem] theorem boolT58 : boolT Try.prog 58 = false := by kernel_rfl
@[go_sem] theorem mapT58 : mapT Try.prog 58 = none := by kernel_rfl
@[go_sem] theorem sizeT58 : sizeT Try.prog 58 = 1 := by kernel_rfl
@[go_sem] theorem bytesT58 : bytesT Try.prog 58 = 8 := by kernel_rfl
@[go_sem] theorem zeroT58 : zeroT Try.prog 58 = some [D.nfun] := by kernel_rfl
@[go_sem] theorem hasZero58 : hasZero Try.prog 58 = true := by kernel_rfl
@[go_sem] theorem isAggT59 : isAggT Try.prog 59 = false := by kernel_rfl
@[go_sem] theorem isOneT59 : isOneT Try.prog 59 = true := by kernel_rfl
@[go_sem] theorem elemT59 : elemT Try.prog 59 = none := by kernel_rfl
@[go_sem] theorem arrT59 : arrT Try.prog 59 = none := by kernel_rfl
@[go_sem] theorem intT59 : intT Try.prog 59 = none := by kernel_rfl
@[go_sem] theorem strT59 : strT Try.prog 59 = false := by kernel_rfl
@[go_sem] theorem boolT59 : boolT Try.prog 59 = false := by kernel_rfl
@[go_sem] theorem mapT59 : mapT Try.prog 59 = none := by kernel_rfl
@[go_sem] theorem sizeT59 : sizeT Try.prog 59 = 1 := by kernel_rfl
@[go_sem] theorem bytesT59 : bytesT Try.prog 59 = 8 := by kernel_rfl
@[go_sem] theorem zeroT59 : zeroT Try.prog 59 = some [D.nfun] := by kernel_rfl
@[go_sem] theorem hasZero59 : hasZero Try.prog 59 = true := by kernel_rfl
@[go_sem] theorem isAggT60 : isAggT Try.prog 60 = false := by kernel_rfl
@[go_sem] theorem isOneT60 : isOneT Try.prog 60 = true := by kernel_rfl
@[go_sem] theorem elemT60 : elemT Try.prog 60 = some 2 := by kernel_rfl
@[go_sem] theorem arrT60 : arrT Try.prog 60 = none := by kernel_rfl
@[go_sem] theorem intT60 : intT Try.prog 60 = none := by kernel_rfl
@[go_sem] theorem strT60 : strT Try.prog 60 = false := by kernel_rfl
@[go_sem] theorem boolT60 : boolT Try.prog 60 = false := by kernel_rfl
@[go_sem] theorem mapT60 : mapT Try.prog 60 = none := by kernel_rfl
@[go_sem] theorem sizeT60 : sizeT Try.prog 60 = 1 := by kernel_rfl
@[go_sem] theorem bytesT60 : bytesT Try.prog 60 = 24 := by kernel_rfl
@[go_sem] theorem zeroT60 : zeroT Try.prog 60 = some [D.nil] := by kernel_rfl
@[go_sem] theorem hasZero60 : hasZero Try.prog 60 = true := by kernel_rfl
@[go_sem] theorem isAggT61 : isAggT Try.prog 61 = false := by kernel_rfl
@[go_sem] theorem isOneT61 : isOneT Try.prog 61 = true := by kernel_rfl
@[go_sem] theorem elemT61 : elemT Try.prog 61 = none := by kernel_rfl
@[go_sem] theorem arrT61 : arrT Try.prog 61 = none := by kernel_rfl
@[go_sem] theorem intT61 : intT Try.prog 61 = none := by kernel_rfl
@[go_sem] theorem strT61 : strT Try.prog 61 = false := by kernel_rfl
@[go_sem] theorem boolT61 : boolT Try.prog 61 = false := by kernel_rfl
@[go_sem] theorem mapT61 : mapT Try.prog 61 = none := by kernel_rfl
@[go_sem] theorem sizeT61 : sizeT Try.prog 61 = 1 := by kernel_rfl
@[go_sem] theorem bytesT61 : bytesT Try.prog 61 = 8 := by kernel_rfl
@[go_sem] theorem zeroT61 : zeroT Try.prog 61 = some [D.nfun] := by kernel_rfl
@[go_sem] theorem hasZero61 : hasZero Try.prog 61 = true := by kernel_rfl
@[go_sem] theorem isAggT62 : isAggT Try.prog 62 = false := by kernel_rfl
@[go_sem] theorem isOneT62 : isOneT Try.prog 62 = true := by kernel_rfl
@[go_sem] theorem elemT62 : elemT Try.prog 62 = none := by kernel_rfl
@[go_sem] theorem arrT62 : arrT Try.prog 62 = none := by kernel_rfl
@[go_sem] theorem intT62 : intT Try.prog 62 = none := by kernel_rfl
@[go_sem] theorem strT62 : strT Try.prog 62 = false := by kernel_rfl
@[go_sem] theorem boolT62 : boolT Try.prog 62 = false := by kernel_rfl
@[go_sem] theorem mapT62 : mapT Try.prog 62 = none := by kernel_rfl
@[go_sem] theorem sizeT62 : sizeT Try.prog 62 = 1 := by kernel_rfl
@[go_sem] theorem bytesT62 : bytesT Try.prog 62 = 8 := by kernel_rfl
@[go_sem] theorem zeroT62 : zeroT Try.prog 62 = some [D.nfun] := by kernel_rfl
@[go_sem] theorem hasZero62 : hasZero Try.prog 62 = true := by kernel_rfl
@[go_sem] theorem isAggT63 : isAggT Try.prog 63 = false := by kernel_rfl
@[go_sem] theorem isOneT63 : isOneT Try.prog 63 = true := by kernel_rfl
@[go_sem] theorem elemT63 : elemT Try.prog 63 = none := by kernel_rfl
@[go_sem] theorem arrT63 : arrT Try.prog 63 = none := by kernel_rfl
@[go_sem] theorem intT63 : intT Try.prog 63 = none := by kernel_rfl
@[go_sem] theorem strT63 : strT Try.prog 63 = false := by kernel_rfl
@[go_sem] theorem boolT63 : boolT Try.prog 63 = false := by kernel_rfl
@[go_sem] theorem mapT63 : mapT Try.prog 63 = some (3, 3) := by kernel_rfl
@[go_sem] theorem sizeT63 : sizeT Try.prog 63 = 1 := by kernel_rfl
@[go_sem] theorem bytesT63 : bytesT Try.prog 63 = 8 := by kernel_rfl
@[go_sem] theorem zeroT63 : zeroT Try.prog 63 = some [D.nmp] := by kernel_rfl
@[go_sem] theorem hasZero63 : hasZero Try.prog 63 = true := by kernel_rfl
@[go_sem] theorem isAggT65 : isAggT Try.prog 65 = false := by kernel_rfl
@[go_sem] theorem isOneT65 : isOneT Try.prog 65 = true := by kernel_rfl
@[go_sem] theorem elemT65 : elemT Try.prog 65 = none := by kernel_rfl
@[go_sem] theorem arrT65 : arrT Try.prog 65 = none := by kernel_rfl
@[go_sem] theorem intT65 : intT Try.prog 65 = none := by kernel_rfl
@[go_sem] theorem strT65 : strT Try.prog 65 = false := by kernel_rfl
@[go_sem] theorem boolT65 : boolT Try.prog 65 = false := by kernel_rfl
@[go_sem] theorem mapT65 : mapT Try.prog 65 = none := by kernel_rfl
@[go_sem] theorem sizeT65 : sizeT Try.prog 65 = 1 := by kernel_rfl
@[go_sem] theorem bytesT65 : bytesT Try.prog 65 = 8 := by kernel_rfl
@[go_sem] theorem zeroT65 : zeroT Try.prog 65 = some [D.nfun] := by kernel_rfl
@[go_sem] theorem hasZero65 : hasZero Try.prog 65 = true := by kernel_rfl
@[go_sem] theorem isAggT66 : isAggT Try.prog 66 = false := by kernel_rfl
@[go_sem] theorem isOneT66 : isOneT Try.prog 66 = true := by kernel_rfl
@[go_sem] theorem elemT66 : elemT Try.prog 66 = none := by kernel_rfl
@[go_sem] theorem arrT66 : arrT Try.prog 66 = none := by kernel_rfl
@[go_sem] theorem intT66 : intT Try.prog 66 = none := by kernel_rfl
@[go_sem] theorem strT66 : strT Try.prog 66 = false := by kernel_rfl
@[go_sem] theorem boolT66 : boolT Try.prog 66 = false := by kernel_rfl
@[go_sem] theorem mapT66 : mapT Try.prog 66 = none := by kernel_rfl
@[go_sem] theorem sizeT66 : sizeT Try.prog 66 = 1 := by kernel_rfl
@[go_sem] theorem bytesT66 : bytesT Try.prog 66 = 8 := by kernel_rfl
@[go_sem] theorem zeroT66 : zeroT Try.prog 66 = some [D.nfun] := by kernel_rfl
@[go_sem] theorem hasZero66 : hasZero Try.prog 66 = true := by kernel_rfl
@[go_sem] theorem isAggT67 : isAggT Try.prog 67 = false := by kernel_rfl
@[go_sem] theorem isOneT67 : isOneT Try.prog 67 = true := by kernel_rfl
@[go_sem] theorem elemT67 : elemT Try.prog 67 = none := by kernel_rfl
@[go_sem] theorem arrT67 : arrT Try.prog 67 = none := by kernel_rfl
@[go_sem] theorem intT67 : intT Try.prog 67 = none := by kernel_rfl
@[go_sem] theorem strT67 : strT Try.prog 67 = false := by kernel_rfl
@[go_sem] theorem boolT67 : boolT Try.prog 67 = false := by kernel_rfl
@[go_sem] theorem mapT67 : mapT Try.prog 67 = none := by kernel_rfl
@[go_sem] theorem sizeT67 : sizeT Try.prog 67 = 1 := by kernel_rfl
@[go_sem] theorem bytesT67 : bytesT Try.prog 67 = 8 := by kernel_rfl
@[go_sem] theorem zeroT67 : zeroT Try.prog 67 = some [D.nfun] := by kernel_rfl
@[go_sem] theorem hasZero67 : hasZero Try.prog 67 = true := by kernel_rfl
@[go_sem] theorem isAggT68 : isAggT Try.prog 68 = false := by kernel_rfl
@[go_sem] theorem isOneT68 : isOneT Try.prog 68 = true := by kernel_rfl
@[go_sem] theorem elemT68 : elemT Try.prog 68 = none := by kernel_rfl
@[go_sem] theorem arrT68 : arrT Try.prog 68 = none := by kernel_rfl
@[go_sem] theorem intT68 : intT Try.prog 68 = none := by kernel_rfl
@[go_sem] theorem strT68 : strT Try.prog 68 = false := by kernel_rfl
@[go_sem] theorem boolT68 : boolT Try.prog 68 = false := by kernel_rfl
@[go_sem] theorem mapT68 : mapT Try.prog 68 = none := by kernel_rfl
@[go_sem] theorem sizeT68 : sizeT Try.prog 68 = 1 := by kernel_rfl
@[go_sem] theorem bytesT68 : bytesT Try.prog 68 = 8 := by kernel_rfl
@[go_sem] theorem zeroT68 : zeroT Try.prog 68 = some [D.nfun] := by kernel_rfl
@[go_sem] theorem hasZero68 : hasZero Try.prog 68 = true := by kernel_rfl
@[go_sem] theorem isAggT69 : isAggT Try.prog 69 = false := by kernel_rfl
@[go_sem] theorem isOneT69 : isOneT Try.prog 69 = true := by kernel_rfl
@[go_sem] theorem elemT69 : elemT Try.prog 69 = none := by kernel_rfl
@[go_sem] theorem arrT69 : arrT Try.prog 69 = none := by kernel_rfl
@[go_sem] theorem intT69 : intT Try.prog 69 = none := by kernel_rfl
@[go_sem] theorem strT69 : strT Try.prog 69 = false := by kernel_rfl
@[go_sem] theorem boolT69 : boolT Try.prog 69 = false := by kernel_rfl
@[go_sem] theorem mapT69 : mapT Try.prog 69 = none := by kernel_rfl
@[go_sem] theorem sizeT69 : sizeT Try.prog 69 = 1 := by kernel_rfl
@[go_sem] theorem bytesT69 : bytesT Try.prog 69 = 8 := by kernel_rfl
@[go_sem] theorem zeroT69 : zeroT Try.prog 69 = some [D.nfun] := by kernel_rfl
@[go_sem] theorem hasZero69 : hasZero Try.prog 69 = true := by kernel_rfl
@[go_sem] theorem isAggT75 : isAggT Try.prog 75 = false := by kernel_rfl
@[go_sem] theorem isOneT75 : isOneT Try.prog 75 = true := by kernel_rfl
@[go_sem] theorem elemT75 : elemT Try.prog 75 = none := by kernel_rfl
@[go_sem] theorem arrT75 : arrT Try.prog 75 = none := by kernel_rfl
@[go_sem] theorem intT75 : intT Try.prog 75 = none := by kernel_rfl
@[go_sem] theorem strT75 : strT Try.prog 75 = false := by kernel_rfl
@[go_sem] theorem boolT75 : boolT Try.prog 75 = false := by kernel_rfl
@[go_sem] theorem mapT75 : mapT Try.prog 75 = none := by kernel_rfl
@[go_sem] theorem sizeT75 : sizeT Try.prog 75 = 1 := by kernel_rfl
@[go_sem] theorem bytesT75 : bytesT Try.prog 75 = 8 := by kernel_rfl
@[go_sem] theorem zeroT75 : zeroT Try.prog 75 = some [D.nfun] := by kernel_rfl
@[go_sem] theorem hasZero75 : hasZero Try.prog 75 = true := by kernel_rfl
@[go_sem] theorem isAggT76 : isAggT Try.prog 76 = false := by kernel_rfl
@[go_sem] theorem isOneT76 : isOneT Try.prog 76 = true := by kernel_rfl
@[go_sem] theorem elemT76 : elemT Try.prog 76 = none := by kernel_rfl
@[go_sem] theorem arrT76 : arrT Try.prog 76 = none := by kernel_rfl
@[go_sem] theorem intT76 : intT Try.prog 76 = some .u32 := by kernel_rfl
@[go_sem] theorem strT76 : strT Try.prog 76 = false := by kernel_rfl
@[go_sem] theorem boolT76 : boolT Try.prog 76 = false := by kernel_rfl
@[go_sem] theorem mapT76 : mapT Try.prog 76 = none := by kernel_rfl
@[go_sem] theorem sizeT76 : sizeT Try.prog 76 = 1 := by kernel_rfl
@[go_sem] theorem bytesT76 : bytesT Try.prog 76 = 4 := by kernel_rfl
@[go_sem] theorem zeroT76 : zeroT Try.prog 76 = some [D.int .u32 0] := by kernel_rfl
@[go_sem] theorem hasZero76 : hasZero Try.prog 76 = true := by kernel_rfl
@[go_sem] theorem isAggT80 : isAggT Try.prog 80 = false := by kernel_rfl
@[go_sem] theorem isOneT80 : isOneT Try.prog 80 = true := by kernel_rfl
@[go_sem] theorem elemT80 : elemT Try.prog 80 = none := by kernel_rfl
@[go_sem] theorem arrT80 : arrT Try.prog 80 = none := by kernel_rfl
@[go_sem] theorem intT80 : intT Try.prog 80 = none := by kernel_rfl
@[go_sem] theorem strT80 : strT Try.prog 80 = false := by kernel_rfl
@[go_sem] theorem boolT80 : boolT Try.prog 80 = false := by kernel_rfl
@[go_sem] theorem mapT80 : mapT Try.prog 80 = none := by kernel_rfl
@[go_sem] theorem sizeT80 : sizeT Try.prog 80 = 1 := by kernel_rfl
@[go_sem] theorem bytesT80 : bytesT Try.prog 80 = 8 := by kernel_rfl
@[go_sem] theorem zeroT80 : zeroT Try.prog 80 = some [D.nptr] := by kernel_rfl
@[go_sem] theorem hasZero80 : hasZero Try.prog 80 = true := by kernel_rfl
@[go_sem] theorem keyT3 : keyT Try.prog 3 = true := by kernel_rfl
@[go_sem] theorem zeroD3 : zeroD Try.prog 3 = some (D.int .i64 0) := by kernel_rfl
theorem eqD_struct {P : Program} {d : Nat} {t : TypeId} {fs : Array Field} {xs ys : List D} (hu : P.underlying t = some (.struct fs)) (hs : P.stoodInHeld t = false) : eqD P (d + 1) t (.agg xs) (.agg ys) = eqFieldsD (eqD P d) P xs ys fs.toList := by
  simp only [eqD, hu, hs, if_true]
theorem eqD_int {P : Program} {d : Nat} {t : TypeId} {k : IntKind} {a b : Int} (hu : P.underlying t = some (.int k)) : eqD P (d + 1) t (.int k a) (.int k b) = some (decide (a = b)) := by
  simp only [eqD, hu, if_true, Option.some.injEq]; by_cases h : a = b <;> simp [h]
theorem eqD_str {P : Program} {d : Nat} {t : TypeId} {a b : ByteArray} (hu : P.underlying t = some .string) : eqD P (d + 1) t (.str a) (.str b) = some (decide (a = b)) := by
  simp only [eqD, hu]
theorem eqD_bool {P : Program} {d : Nat} {t : TypeId} {a b : Bool} (hu : P.underlying t = some .bool) : eqD P (d + 1) t (.bool a) (.bool b) = some (decide (a = b)) := by
  simp only [eqD, hu, Option.some.injEq]; cases a <;> cases b <;> rfl
theorem guardT34 : Try.prog.eqGuardType Try.prog.depth 34 = false := by kernel_rfl
theorem eqT34 (d : Nat) (a0 b0 : Int) (a1 b1 : Int) : eqD Try.prog (d + 2) 34 (.agg [.int .i64 a0, .int .i64 a1]) (.agg [.int .i64 b0, .int .i64 b1]) = some (decide (a0 = b0) && decide (a1 = b1)) := by
  rw [eqD_struct Try.underlying34 (by kernel_rfl)]
  simp only [eqFieldsD, takeD, List.getElem?_cons_zero, List.getElem?_cons_succ, List.drop_succ_cons, List.drop_zero, List.take_succ_cons, List.take_zero, List.length_cons, List.length_nil, Nat.reduceAdd, Nat.reduceLeDiff, if_true, if_false, Bool.false_eq_true, ne_eq, String.reduceEq, not_false_eq_true, decide_eq_true_eq, isAggT3, isOneT3, sizeT3, eqD_int Try.underlying3]
  (repeat' split) <;> simp_all
@[go_sem] theorem eqU34 (a0 b0 : Int) (a1 b1 : Int) : eqD Try.prog 8 34 (.agg [.int .i64 a0, .int .i64 a1]) (.agg [.int .i64 b0, .int .i64 b1]) = some (decide (a0 = b0) && decide (a1 = b1)) := eqT34 6 a0 b0 a1 b1
attribute [go_sem] guardT34
theorem guardT35 : Try.prog.eqGuardType Try.prog.depth 35 = false := by kernel_rfl
theorem eqT35 (d : Nat) (a0 b0 : Int) (a1 b1 : Int) : eqD Try.prog (d + 2) 35 (.agg [.int .i64 a0, .int .i64 a1]) (.agg [.int .i64 b0, .int .i64 b1]) = some (decide (a0 = b0) && decide (a1 = b1)) := by
  rw [eqD_struct Try.underlying35 (by kernel_rfl)]
  simp only [eqFieldsD, takeD, List.getElem?_cons_zero, List.getElem?_cons_succ, List.drop_succ_cons, List.drop_zero, List.take_succ_cons, List.take_zero, List.length_cons, List.length_nil, Nat.reduceAdd, Nat.reduceLeDiff, if_true, if_false, Bool.false_eq_true, ne_eq, String.reduceEq, not_false_eq_true, decide_eq_true_eq, isAggT3, isOneT3, sizeT3, eqD_int Try.underlying3]
  (repeat' split) <;> simp_all
@[go_sem] theorem eqU35 (a0 b0 : Int) (a1 b1 : Int) : eqD Try.prog 8 35 (.agg [.int .i64 a0, .int .i64 a1]) (.agg [.int .i64 b0, .int .i64 b1]) = some (decide (a0 = b0) && decide (a1 = b1)) := eqT35 6 a0 b0 a1 b1
attribute [go_sem] guardT35
@[go_sem] theorem eqUL3 (a b : Int) : eqD Try.prog 8 3 (.int .i64 a) (.int .i64 b) = some (decide (a = b)) := eqD_int Try.underlying3
theorem mixed : Try.prog.follows .mixedOrders = true := by kernel_rfl

end Go.Proofs.Ytjibdljdkgedcaa.Facts
