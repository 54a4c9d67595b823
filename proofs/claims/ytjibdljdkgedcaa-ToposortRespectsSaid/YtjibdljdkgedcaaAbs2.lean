/-
  The abstract operations: what each operation of the model does to abstract values. No condition.
-/
import Derived.Test.YtjibdljdkgedcaaAbs1
set_option linter.unusedSimpArgs false
set_option linter.unusedVariables false
namespace Go.Proofs.Ytjibdljdkgedcaa.Abs
open Go.RowKit

structure St where
  t : Nat → D
  H : HM
  nx : Nat

def updH (H : HM) (id : Nat) (o : Option HObj) : HM := fun j => if j = id then o else H j
def updT (t : Nat → D) (i : Nat) (d : D) : Nat → D := fun j => if j = i then d else t j
def St.put (st : St) (dst : Option Nat) (d : D) : St :=
  match dst with
  | some i => { st with t := updT st.t i d }
  | none => st

/-- A constant of the code. -/
def ofCell : Value → D
  | .int k n => .int k n
  | .bool b => .bool b
  | .string s => .str s
  | .slice none 0 0 => .nil
  | .pointer none => .nptr
  | .nilFunc => .nfun
  | .map none => .nmp
  | _ => .any
def ofVal : Value → D
  | .agg cs => if cs.toList.all (·.oneCell') then .agg (cs.toList.map ofCell) else .any
  | v => ofCell v

def St.ev (st : St) : Operand → D
  | .tmp t => st.t t
  | .const v => ofVal v
  | .global g => globD g
  | .func f => .fn f []

def isAggT (P : Program) (t : TypeId) : Bool :=
  match P.underlying t with
  | some (.struct _) | some (.array _ _) => true
  | _ => false
def isOneT (P : Program) (t : TypeId) : Bool :=
  match P.underlying t with
  | some (.struct _) | some (.array _ _) | none => false
  | _ => true
def elemT (P : Program) (t : TypeId) : Option TypeId :=
  match P.underlying t with
  | some (.slice e) => some e
  | _ => none
def arrT (P : Program) (t : TypeId) : Option (Nat × TypeId) :=
  match P.underlying t with
  | some (.array n e) => some (n, e)
  | _ => none
def fieldT (P : Program) (t : TypeId) (f : Nat) : Option (Nat × TypeId) :=
  match P.underlying t with
  | some (.struct fs) => (fs[f]?).map fun x => (x.offset, x.type)
  | _ => none
def intT (P : Program) (t : TypeId) : Option IntKind :=
  match P.underlying t with
  | some (.int k) => some k
  | _ => none
def fieldsOK (P : Program) (t : TypeId) : Bool :=
  match P.underlying t with
  | some (.struct fs) => fs.toList.all fun f => (P.info? f.type).isSome
  | _ => false
def strT (P : Program) (t : TypeId) : Bool :=
  match P.underlying t with
  | some .string => true
  | _ => false
def boolT (P : Program) (t : TypeId) : Bool :=
  match P.underlying t with
  | some .bool => true
  | _ => false
def mapT (P : Program) (t : TypeId) : Option (TypeId × TypeId) :=
  match P.underlying t with
  | some (.map k e) => some (k, e)
  | _ => none
/-- The element type's zero value has as many cells as the type. -/
def hasZero (P : Program) (t : TypeId) : Bool := ((P.info? t).bind (·.zero)).any fun z => z.cells.size == sizeT P t
def bytesT (P : Program) (t : TypeId) : Nat := ((P.info? t).map (·.bytes)).getD 0
def zeroT (P : Program) (t : TypeId) : Option (List D) :=
  ((P.info? t).bind (·.zero)).bind fun v => if v.cells.size = sizeT P t ∧ v.cells.toList.all (·.oneCell') then some (v.cells.toList.map ofCell) else none

/-- The cells of a value. -/
def cellsD : D → Option (List D)
  | .agg ds => some ds
  | .any | .tup _ => none
  | d => some [d]
/-- The part of a row of cells that a type takes. -/
def takeD (P : Program) (t : TypeId) (cs : List D) (off : Nat) : Option D :=
  if isAggT P t = true then (if off + sizeT P t ≤ cs.length then some (.agg ((cs.drop off).take (sizeT P t))) else none) else if isOneT P t = true then cs[off]? else none
def fitsD (P : Program) (t : TypeId) : D → Bool
  | .agg ds => isAggT P t && ds.length == sizeT P t
  | .any | .tup _ => false
  | _ => isOneT P t

def loadD (P : Program) (H : HM) (t : TypeId) : D → Option D
  | .ptr id off => match H id with
    | some (.box _ cs) => takeD P t cs off
    | _ => none
  | .eptr id n off => match H id with
    | some (.row _ k cs) => if n = k then takeD P t cs off else none
    | _ => none
  | .rptr d => if fitsD P t d = true then some d else none
  | _ => none

def splice {α : Type} : List α → Nat → List α → List α
  | cs, _, [] => cs
  | cs, off, v :: vs => splice (cs.set off v) (off + 1) vs

def storeD (P : Program) (H : HM) (t : TypeId) (p v : D) : Option HM :=
  match cellsD v with
  | some vs => if vs.length = sizeT P t ∧ 0 < vs.length then
      (match p with
      | .ptr id off => match H id with
        | some (.box e cs) => if off + vs.length ≤ cs.length then some (updH H id (some (.box e (splice cs off vs)))) else none
        | _ => none
      | .eptr id n off => match H id with
        | some (.row e k cs) => if n = k ∧ off + vs.length ≤ cs.length then some (updH H id (some (.row e k (splice cs off vs)))) else none
        | _ => none
      | _ => none) else none
  | none => none

def fieldAddrD (P : Program) (s : TypeId) (p : D) (f : Nat) : Option D :=
  match fieldT P s f with
  | some (o, t) => if sizeT P t = 0 then none else
    match p with
    | .ptr id off => some (.ptr id (off + o))
    | .eptr id n off => some (.eptr id n (off + o))
    | .rptr (.agg ds) => (takeD P t ds o).map .rptr
    | _ => none
  | none => none

def idxD (els : List D) (i : Int) : Option D := if 0 ≤ i ∧ i < els.length then els[i.toNat]? else none

def indexAddrD (P : Program) (H : HM) (t : TypeId) (x i : D) : Option D :=
  match elemT P t with
  | some e =>
    match x, i with
    | .rsl _ sz els, .int _ i => if sz = sizeT P e ∧ sizeT P e ≠ 0 then (idxD els i).map .rptr else none
    | .osl id n, .int _ i => match H id with
      | some (.row e' k _) => if e' = e ∧ n = k ∧ sizeT P e ≠ 0 ∧ 0 ≤ i ∧ i < n then some (.eptr id n (i.toNat * sizeT P e)) else none
      | _ => none
    | _, _ => none
  | none =>
    match arrT P t with
    | some (len, e) =>
      match x, i with
      | .ptr id off, .int _ i => if sizeT P e ≠ 0 ∧ 0 ≤ i ∧ i < len then some (.ptr id (off + i.toNat * sizeT P e)) else none
      | .eptr id n off, .int _ i => if sizeT P e ≠ 0 ∧ 0 ≤ i ∧ i < len then some (.eptr id n (off + i.toNat * sizeT P e)) else none
      | .rptr (.agg ds), .int _ i => if sizeT P e ≠ 0 ∧ 0 ≤ i ∧ i < len then (takeD P e ds (i.toNat * sizeT P e)).map .rptr else none
      | _, _ => none
    | none => none

def indexD (P : Program) (t : TypeId) (x i : D) : Option D :=
  match arrT P t, x, i with
  | some (len, e), .agg ds, .int _ i => if sizeT P e ≠ 0 ∧ 0 ≤ i ∧ i < len then takeD P e ds (i.toNat * sizeT P e) else none
  | none, .str s, .int _ i => if strT P t = true ∧ 0 ≤ i then (s[i.toNat]?).map fun b => .int .u8 b.toNat else none
  | _, _, _ => none

def boundD (dflt : Nat) : Option D → Option Int
  | none => some dflt
  | some (.int _ i) => some i
  | _ => none
def sliceD (P : Program) (t : TypeId) (x : D) (lo hi : Option D) : Option D :=
  match elemT P t with
  | some e =>
    match x with
    | .rsl nn sz els => (boundD 0 lo).bind fun l => (boundD els.length hi).bind fun h => if sz = sizeT P e ∧ sizeT P e ≠ 0 ∧ 0 ≤ l ∧ l ≤ h ∧ h ≤ els.length then some (.rsl nn sz ((els.take h.toNat).drop l.toNat)) else none
    | .nil => (boundD 0 lo).bind fun l => (boundD 0 hi).bind fun h => if sizeT P e ≠ 0 ∧ l = 0 ∧ h = 0 then some .nil else none
    | _ => none
  | none => match x with
    | .str s => (boundD 0 lo).bind fun l => (boundD s.size hi).bind fun h => if strT P t = true ∧ 0 ≤ l ∧ l ≤ h ∧ h ≤ s.size then some (.str (s.extract l.toNat h.toNat)) else none
    | _ => none

/-- A slice up to a place, without room behind it. -/
def slice3D (P : Program) (t : TypeId) (x : D) (lo hi : Option D) (mx : D) : Option D :=
  match elemT P t, lo, hi, mx with
  | some e, none, some (.int _ h), .int _ m => match x with
    | .rsl _ sz els => if sz = sizeT P e ∧ sizeT P e ≠ 0 ∧ 0 ≤ h ∧ h = m ∧ h ≤ els.length then some (.fsl sz (els.take h.toNat)) else none
    | .nil => if sizeT P e ≠ 0 ∧ h = 0 ∧ m = 0 then some .nil else none
    | _ => none
  | _, _, _, _ => none
def fillD (place : Nat → Option (Nat × Nat)) : List D → List (Nat × D) → Option (List D)
  | cells, [] => some cells
  | cells, (i, v) :: rest =>
    match place i, cellsD v with
    | some (off, size), some vs => if vs.length = size ∧ off + vs.length ≤ cells.length then fillD place (splice cells off vs) rest else none
    | _, _ => none
def buildD (P : Program) (t : TypeId) (parts : List (Nat × D)) : Option D :=
  match zeroT P t with
  | some zs =>
    match P.underlying t with
    | some (.struct _) => if fieldsOK P t = true then (fillD (fun i => (fieldT P t i).map fun (o, ft) => (o, sizeT P ft)) zs parts).map .agg else none
    | some (.array _ e) => if sizeT P e ≠ 0 then (fillD (fun i => some (i * sizeT P e, sizeT P e)) zs parts).map .agg else none
    | _ => none
  | none => none

/-- All the cells of a list of values, each of n cells. -/
def cellsAll (n : Nat) : List D → Option (List D)
  | [] => some []
  | d :: ds => match cellsD d, cellsAll n ds with
    | some c, some r => if c.length = n then some (c ++ r) else none
    | _, _ => none

def eqFieldsD (eq : TypeId → D → D → Option Bool) (P : Program) (xs ys : List D) : List Field → Option Bool
  | [] => some true
  | f :: fs =>
    if f.name ≠ "_" then
      match takeD P f.type xs f.offset, takeD P f.type ys f.offset with
      | some a, some b => match eq f.type a b with
        | some r => if r = true then eqFieldsD eq P xs ys fs else some false
        | none => none
      | _, _ => none
    else eqFieldsD eq P xs ys fs
def eqD (P : Program) : Nat → TypeId → D → D → Option Bool
  | 0, _, _, _ => none
  | d + 1, t, x, y =>
    match P.underlying t, x, y with
    | some .bool, .bool a, .bool b => some (a == b)
    | some (.int _), .int k a, .int k' b => if k = k' then some (a == b) else none
    | some .string, .str a, .str b => some (decide (a = b))
    | some (.struct fs), .agg xs, .agg ys => if P.stoodInHeld t = false then eqFieldsD (eqD P d) P xs ys fs.toList else none
    | _, _, _ => none

def cmpInt (op : BinOp) (x y : Int) : Option Bool :=
  match op with
  | .eql => some (decide (x = y))
  | .neq => some (decide (x ≠ y))
  | .lss => some (decide (x < y))
  | .leq => some (decide (x ≤ y))
  | .gtr => some (decide (y < x))
  | .geq => some (decide (y ≤ x))
  | _ => none
def bitsD (op : BinOp) (k : IntKind) (x y : Int) : Option Int :=
  let a := BitVec.ofInt k.bits x
  let b := BitVec.ofInt k.bits y
  match op with
  | .and => some (k.wrap (a &&& b).toNat)
  | .or => some (k.wrap (a ||| b).toNat)
  | .xor => some (k.wrap (a ^^^ b).toNat)
  | .andNot => some (k.wrap (a &&& ~~~b).toNat)
  | _ => none
def isNilD : D → Option Bool
  | .nil => some true
  | .rsl true _ _ => some false
  | .rsl _ _ (_ :: _) => some false
  | .nptr => some true
  | .rptr _ => some false
  | .nmp => some true
  | _ => none
def ptrT (P : Program) (t : TypeId) : Bool :=
  match P.underlying t with
  | some (.pointer _) => true
  | _ => false
def isNilP : D → Option Bool
  | .nptr => some true
  | .rptr _ => some false
  | .ptr _ _ => some false
  | _ => none
def binD (P : Program) (op : BinOp) (t : TypeId) : D → D → Option D
  | .int k a, .int k' b =>
    match op with
    | .shl => if 0 ≤ b then some (.int k (k.wrap (a * 2 ^ (min b.toNat k.bits)))) else none
    | .shr => if 0 ≤ b then some (.int k (a.fdiv (2 ^ (min b.toNat k.bits)))) else none
    | .add => if k = k' then some (.int k (k.wrap (a + b))) else none
    | .sub => if k = k' then some (.int k (k.wrap (a - b))) else none
    | .mul => if k = k' then some (.int k (k.wrap (a * b))) else none
    | .quo => if k = k' ∧ b ≠ 0 then some (.int k (k.wrap (a.tdiv b))) else none
    | .rem => if k = k' ∧ b ≠ 0 then some (.int k (a.tmod b)) else none
    | .and | .or | .xor | .andNot => if k = k' then (bitsD op k a b).map (.int k) else none
    | _ => if k = k' then (cmpInt op a b).map .bool else none
  | .bool a, .bool b =>
    match op with
    | .eql => if boolT P t = true then some (.bool (a == b)) else none
    | .neq => if boolT P t = true then some (.bool (a != b)) else none
    | _ => none
  | .str a, .str b =>
    match op with
    | .eql => some (.bool (decide (a = b)))
    | .neq => some (.bool (decide (a ≠ b)))
    | .lss => some (.bool (Op.bytesLess a.toList b.toList))
    | .add => if a.size + b.size ≤ 9223372036854775807 then some (.str (a ++ b)) else none
    | _ => none
  | .agg a, .agg b =>
    match op with
    | .eql => if P.eqGuardType P.depth t = false then (eqD P 8 t (.agg a) (.agg b)).map .bool else none
    | .neq => if P.eqGuardType P.depth t = false then (eqD P 8 t (.agg a) (.agg b)).map fun r => .bool (!r) else none
    | _ => none
  | x, .nil =>
    match elemT P t, op with
    | some _, .eql => match x with
      | .nil | .rsl _ _ _ => (isNilD x).map .bool
      | _ => none
    | some _, .neq => match x with
      | .nil | .rsl _ _ _ => (isNilD x).map fun r => .bool (!r)
      | _ => none
    | _, _ => none
  | x, .nptr =>
    match op with
    | .eql => if ptrT P t = true then (isNilP x).map .bool else none
    | .neq => if ptrT P t = true then (isNilP x).map fun r => .bool (!r) else none
    | _ => none
  | _, _ => none

def unD (op : UnOp) : D → Option D
  | .bool b => match op with
    | .not => some (.bool (!b))
    | _ => none
  | .int k n => match op with
    | .neg => some (.int k (k.wrap (0 - n)))
    | _ => none
  | _ => none

def lenD (P : Program) (H : HM) (t : TypeId) : D → Option D
  | .rsl _ _ els => (elemT P t).map fun _ => .int .i64 els.length
  | .nil => (elemT P t).map fun _ => .int .i64 0
  | .osl _ n => (elemT P t).map fun _ => .int .i64 n
  | .mp id => match H id with
    | some (.map es) => (mapT P t).map fun _ => .int .i64 es.length
    | _ => none
  | .str s => if strT P t = true then some (.int .i64 s.size) else none
  | _ => none
/-- Types of keys: integers, strings, bools, or structs of these that lie side by side. -/
def leafT (P : Program) (t : TypeId) : Bool :=
  match P.underlying t with
  | some (.int _) | some .string | some .bool => true
  | _ => false
def tilesK (P : Program) : List Field → Nat → Nat → Bool
  | [], off, n => off == n
  | f :: fs, off, n => f.offset == off && decide (f.name ≠ "_") && leafT P f.type && sizeT P f.type == 1 && tilesK P fs (off + 1) n
def keyT (P : Program) (t : TypeId) : Bool :=
  match P.underlying t with
  | some (.int _) => true
  | some .string => true
  | some .bool => true
  | some (.struct fs) => tilesK P fs.toList 0 (sizeT P t)
  | _ => false
def eqK (P : Program) (kt : TypeId) (k k' : D) : Option Bool := if fitsD P kt k = true ∧ fitsD P kt k' = true then eqD P 8 kt k k' else none
/-- The place of a key, and what stands there. -/
def findD (P : Program) (kt : TypeId) (k : D) : List (D × D) → Option (Option (Nat × D))
  | [] => some none
  | (k', v) :: es => match eqK P kt k k' with
    | some true => some (some (0, v))
    | some false => (findD P kt k es).map (Option.map fun x => (x.1 + 1, x.2))
    | none => none
def setVal : List (D × D) → Nat → D → List (D × D)
  | [], _, _ => []
  | e :: es, 0, x => (e.1, x) :: es
  | e :: es, i + 1, x => e :: setVal es i x
def esD (H : HM) : D → Option (List (D × D))
  | .nmp => some []
  | .mp id => match H id with
    | some (.map es) => some es
    | _ => none
  | _ => none
/-- A type's zero value. -/
def zeroD (P : Program) (t : TypeId) : Option D := ((P.info? t).bind (·.zero)).map ofVal
def lookR (z : Option D) (ok : Bool) : Option (Option (Nat × D)) → Option D
  | some (some (_, v)) => some (if ok = true then .tup [v, .bool true] else v)
  | some none => z.map fun z => if ok = true then .tup [z, .bool false] else z
  | none => none
def lookupD (P : Program) (H : HM) (t : TypeId) (x k : D) (ok : Bool) : Option D :=
  match mapT P t, esD H x with
  | some (kt, et), some es => if keyT P kt = true ∧ fitsD P kt k = true then lookR (zeroD P et) ok (findD P kt k es) else none
  | _, _ => none
def updR (es : List (D × D)) (k x : D) : Option (Option (Nat × D)) → Option HObj
  | some (some (i, _)) => some (.map (setVal es i x))
  | some none => some (.map (es ++ [(k, x)]))
  | none => none
def updateD (P : Program) (H : HM) (t : TypeId) (m k x : D) : Option HM :=
  match mapT P t, m with
  | some (kt, _), .mp id => match H id with
    | some (.map es) => if keyT P kt = true ∧ fitsD P kt k = true then (updR es k x (findD P kt k es)).map fun o => updH H id (some o) else none
    | _ => none
  | _, _ => none
def maxD : D → D → Option D
  | .int k x, .int _ y => some (.int k (max x y))
  | _, _ => none
def minD : D → D → Option D
  | .int k x, .int _ y => some (.int k (min x y))
  | _, _ => none
def pickD (c a b : D) : Option D :=
  match c with
  | .bool t => match a, b with
    | .bool x, .bool y => some (.bool (if t = true then x else y))
    | a, b => some (if t = true then a else b)
  | _ => none

/-- The cells of a slice that is appended. -/
def sourceD (H : HM) (e : TypeId) (n : Nat) : D → Option (Nat × List D)
  | .rsl _ sz els => if sz = n then (cellsAll n els).map fun cs => (els.length, cs) else none
  | .nil => some (0, [])
  | .osl id k => match H id with
    | some (.row e' k' cs) => if e' = e ∧ k = k' then some (k, cs) else none
    | _ => none
  | _ => none
def appendD (P : Program) (H : HM) (nx : Nat) (t : TypeId) (x y : D) : Option (D × HM × Nat) :=
  match elemT P t with
  | some e => if 0 < sizeT P e ∧ hasZero P e = true then
      (sourceD H e (sizeT P e) y).bind fun (m, news) =>
        match x with
        | .nil => if m * bytesT P e ≤ 140737488355328 ∧ m ≤ maxLen then some (.osl nx m, updH H nx (some (.row e m news)), nx + 1) else none
        | .osl id n => match H id with
          | some (.row e' k cs) => if e' = e ∧ n = k ∧ (n + m) * bytesT P e ≤ 140737488355328 ∧ n + m ≤ maxLen then some (.osl id (n + m), updH H id (some (.row e (n + m) (cs ++ news))), nx) else none
          | _ => none
        | _ => none
    else none
  | none => none

/-- Cells as elements. -/
def groupD (ag : Bool) (sz : Nat) : Nat → List D → List D
  | 0, _ => []
  | n + 1, cs => (if ag = true then .agg (cs.take sz) else (cs[0]?).getD .any) :: groupD ag sz n (cs.drop sz)
def oneOK (P : Program) (e : TypeId) : Bool := isAggT P e || (!isAggT P e && sizeT P e == 1)
/-- An append to nothing: the new row is only read from now on. -/
def appendE (P : Program) (H : HM) (t : TypeId) (x y : D) : Option D :=
  match elemT P t with
  | some e => if 0 < sizeT P e ∧ hasZero P e = true ∧ oneOK P e = true then
      (sourceD H e (sizeT P e) y).bind fun (m, news) =>
        if m * bytesT P e ≤ 140737488355328 ∧ m ≤ maxLen ∧ pureD.pureL news = true then
          match x with
          | .e0 => some (.rsl false (sizeT P e) (groupD (isAggT P e) (sizeT P e) m news))
          | .nil => some (.rsl false (sizeT P e) (groupD (isAggT P e) (sizeT P e) m news))
          | .fsl sz els => if 0 < m ∧ sz = sizeT P e ∧ (els.length + m) * bytesT P e ≤ 140737488355328 ∧ els.length + m ≤ maxLen then (cellsAll sz els).bind fun cs => if pureD.pureL cs = true then some (.rsl true (sizeT P e) (groupD (isAggT P e) (sizeT P e) (els.length + m) (cs ++ news))) else none else none
          | _ => none
        else none
    else none
  | none => none
/-- A row of the call's own is given up: it is only read from now on. -/
def shutR (P : Program) : D × HM × Nat → Option (D × HM × Nat)
  | (.osl id n, H, nx) => match H id with
    | some (.row e k cs) => if n = k ∧ oneOK P e = true ∧ pureD.pureL cs = true then some (.rsl false (sizeT P e) (groupD (isAggT P e) (sizeT P e) n cs), updH H id none, nx) else none
    | _ => none
  | _ => none
def isOwn (own : List Nat) : Option Nat → Bool
  | some i => own.any fun s => s == i
  | none => false
/-- 'own' marks slots in two more ways: a slot i as i + 1000000: a literal that is empty, or an append to it; as i + 2000000: an append whose row is given up. -/
def isMark (base : Nat) (own : List Nat) : Option Nat → Bool
  | some i => own.any fun s => s == i + base
  | none => false
/-- The bound: an entry 8000000 + B. An operation marked as i + 6000000 looks at objects below B alone; one marked as i + 7000000 changes none below B. -/
def boundB : List Nat → Nat
  | [] => 0
  | s :: l => if 8000000 ≤ s then s - 8000000 else boundB l
def cutB (B : Nat) (H : HM) : HM := fun id => if id < B then H id else none
/-- A slot i is marked as i + 3000000: a load that looks into boxes alone. -/
def loadB (P : Program) (H : HM) (nx : Nat) (t : TypeId) : D → Option D
  | .ptr id off => if id < nx then loadD P H t (.ptr id off) else none
  | .rptr d => loadD P H t (.rptr d)
  | _ => none
def loadG (P : Program) (own : List Nat) (dst : Option Nat) (H : HM) (nx : Nat) (t : TypeId) (d : D) : Option D :=
  if isMark 3000000 own dst = true then loadB P H nx t d else if isMark 6000000 own dst = true then loadD P (cutB (boundB own) H) t d else loadD P H t d
theorem load_cut {P : Program} {B : Nat} {H : HM} {t : TypeId} {p d : D} (h : loadD P (cutB B H) t p = some d) : loadD P H t p = some d := by
  have key : ∀ id o, cutB B H id = some o → H id = some o := fun id o ho => by
    unfold cutB at ho; split at ho
    · exact ho
    · cases ho
  unfold loadD at h ⊢
  split at h <;> first | exact h | skip
  · rename_i id off
    split at h
    · rename_i hid; rw [key _ _ hid]; exact h
    · cases h
  · rename_i id n off
    split at h
    · rename_i hid; rw [key _ _ hid]; exact h
    · cases h
theorem loadG_some {P : Program} {own : List Nat} {dst : Option Nat} {H : HM} {nx : Nat} {t : TypeId} {p d : D} (h : loadG P own dst H nx t p = some d) : loadD P H t p = some d := by
  unfold loadG at h
  split at h
  · unfold loadB at h
    split at h
    · split at h
      · exact h
      · cases h
    · exact h
    · cases h
  · split at h
    · exact load_cut h
    · exact h
/-- The objects that a marked operation may look at: none. -/
def hmG (own : List Nat) (dst : Option Nat) (H : HM) : HM := if isMark 3000000 own dst = true then fun _ => none else if isMark 6000000 own dst = true then cutB (boundB own) H else H
theorem hmG_some {own : List Nat} {dst : Option Nat} {H : HM} {id : Nat} {o : HObj} (h : hmG own dst H id = some o) : H id = some o := by
  unfold hmG at h
  split at h
  · cases h
  · split at h
    · unfold cutB at h
      split at h
      · exact h
      · cases h
    · exact h
theorem indexAddrG_some {P : Program} {own : List Nat} {dst : Option Nat} {H : HM} {t : TypeId} {x i d : D} (h : indexAddrD P (hmG own dst H) t x i = some d) : indexAddrD P H t x i = some d := by
  unfold indexAddrD at h ⊢
  cases he : elemT P t with
  | some e =>
    rw [he] at h
    cases x <;> first | (exact h; done) | skip
    all_goals (cases i <;> first | (exact h; done) | (cases h; done) | (simp only [reduceCtorEq] at h; done) | skip)
    all_goals
      simp only at h ⊢
      split at h
      · rename_i hid
        rw [hmG_some hid]; exact h
      · cases h
  | none => rw [he] at h; exact h
theorem lenG_some {P : Program} {own : List Nat} {dst : Option Nat} {H : HM} {t : TypeId} {x d : D} (h : lenD P (hmG own dst H) t x = some d) : lenD P H t x = some d := by
  unfold lenD at h ⊢
  cases x <;> first | (exact h; done) | (cases h; done) | skip
  all_goals
    simp only at h ⊢
    split at h
    · rename_i hid
      rw [hmG_some hid]; exact h
    · cases h
/-- The numbers from k on, up to n. -/
def rangeOK : List Nat → Nat → Nat → Bool
  | [], k, n => k == n
  | i :: is, k, n => i == k && rangeOK is (k + 1) n
def St.keep (st : St) (d : Option D) : Option (D × HM × Nat) := d.map fun d => (d, st.H, st.nx)
/-- The iterator over a string. -/
def rangeD (P : Program) (t : TypeId) : D → Option Obj
  | .str s => if strT P t = true then some (.stringIter s 0) else none
  | _ => none
/-- An iterator's next step. -/
def nextD (H : HM) (nx : Nat) (b : Bool) : D → Option (D × HM × Nat)
  | .it id => match H id, b with
    | some (.raw (.stringIter s p)), true => if p < s.size then some (.tup [.bool true, .int .i64 p, .int .i32 (Utf8.decode s p).1], updH H id (some (.raw (.stringIter s (p + (Utf8.decode s p).2)))), nx)
        else some (.tup [.bool false], H, nx)
    | _, _ => none
  | _ => none
/-- The bytes of a string, as values. -/
def bytesD (s : ByteArray) : List D := s.data.toList.map fun b => .int .u8 b.toNat
def unbyte : List D → Option (List UInt8)
  | [] => some []
  | .int .u8 n :: l => if 0 ≤ n ∧ n ≤ 255 then (unbyte l).map (UInt8.ofNat n.toNat :: ·) else none
  | _ => none
def u8T (P : Program) (t : TypeId) : Bool := match elemT P t with
  | some e => match intT P e with
    | some .u8 => true
    | _ => false
  | none => false
/-- A string as a slice of bytes, a slice of bytes as a string. -/
def convS (P : Program) (src dst : TypeId) : D → Option D
  | .str s => if strT P src = true ∧ u8T P dst = true ∧ s.size ≤ 9223372036854775807 then some (.rsl true 1 (bytesD s)) else none
  | .rsl _ 1 els => if u8T P src = true ∧ strT P dst = true then (unbyte els).map fun l => .str ⟨l.toArray⟩ else none
  | _ => none
def convD (P : Program) (src dst : TypeId) (x : D) : Option D :=
  match intT P src, intT P dst, x with
  | some _, some k, .int _ n => some (.int k (k.wrap n))
  | _, _, d => convS P src dst d
/-- One operation: its value, the objects behind it, the next object's number. 'own': the slots whose new slices are the call's own. -/
def opR (P : Program) (own : List Nat) (o : Oper) (st : St) : Option (D × HM × Nat) :=
  match o.op with
  | .move x => some (st.ev x, st.H, st.nx)
  | .assign x =>
    match st.ev x with
    | .nil => if isOwn own o.dst = true then (elemT P o.type).map fun e => (.osl st.nx 0, updH st.H st.nx (some (.row e 0 [])), st.nx + 1) else some (.nil, st.H, st.nx)
    | d => some (d, st.H, st.nx)
  | .pick c a b => st.keep (pickD (st.ev c) (st.ev a) (st.ev b))
  | .alloc e => (zeroT P e).map fun zs => (.ptr st.nx 0, updH st.H st.nx (some (.box e zs)), st.nx + 1)
  | .box e x => (cellsD (st.ev x)).map fun cs => (.ptr st.nx 0, updH st.H st.nx (some (.box e cs)), st.nx + 1)
  | .build t parts => st.keep (buildD P t (parts.toList.map fun (i, x) => (i, st.ev x)))
  | .buildSlice t len parts =>
    match elemT P t with
    | some e =>
      let els := parts.toList.map fun x => st.ev x.2
      if sizeT P e ≠ 0 ∧ rangeOK (parts.toList.map (·.1)) 0 len = true ∧ len * sizeT P e ≤ 16777216 ∧ (len = 0 ∨ hasZero P e = true) then
        (cellsAll (sizeT P e) els).bind fun cs =>
          if isOwn own o.dst = true then some (.osl st.nx len, updH st.H st.nx (some (.row e len cs)), st.nx + 1)
          else if isMark 1000000 own o.dst = true ∧ len = 0 then some (.e0, st.H, st.nx)
          else some (.rsl true (sizeT P e) els, st.H, st.nx)
      else none
    | none => none
  | .load t p => st.keep (loadG P own o.dst st.H st.nx t (st.ev p))
  | .store t p v => (storeD P st.H t (st.ev p) (st.ev v)).map fun H => (.any, H, st.nx)
  | .binOp op t x y _ => st.keep (binD P op t (st.ev x) (st.ev y))
  | .unOp op _ x => st.keep (unD op (st.ev x))
  | .convert src dst x => st.keep (convD P src dst (st.ev x))
  | .makeFunc fn first cap => match fn with
    | .func f => if first.size = 0 then some (.fn f (cap.toList.map st.ev), st.H, st.nx) else none
    | _ => none
  | .makeMap t none => (mapT P t).map fun _ => (.mp st.nx, updH st.H st.nx (some (.map [])), st.nx + 1)
  | .range t x => (rangeD P t (st.ev x)).map fun q => (.it st.nx, updH st.H st.nx (some (.raw q)), st.nx + 1)
  | .next x b => nextD st.H st.nx b (st.ev x)
  | .lookup t x k ok => st.keep (lookupD P st.H t (st.ev x) (st.ev k) ok)
  | .mapUpdate t m k x => (updateD P st.H t (st.ev m) (st.ev k) (st.ev x)).map fun H => (.any, H, st.nx)
  | .insert t m k x => (updateD P st.H t (st.ev m) (st.ev k) (st.ev x)).map fun H => (.any, H, st.nx)
  | .makeSlice t l c =>
    match elemT P t, st.ev l, st.ev c with
    | some e, .int _ l, .int _ c => if l = c ∧ 0 ≤ l ∧ l.toNat * bytesT P e ≤ 140737488355328 ∧ l ≤ 9223372036854775807 ∧ 0 < sizeT P e then
        (zeroT P e).map fun zs => (.osl st.nx l.toNat, updH st.H st.nx (some (.row e l.toNat (List.replicate l.toNat zs).flatten)), st.nx + 1) else none
    | _, _, _ => none
  | .slice t x lo hi mx => match mx with
    | none => st.keep (sliceD P t (st.ev x) (lo.map st.ev) (hi.map st.ev))
    | some m => st.keep (slice3D P t (st.ev x) (lo.map st.ev) (hi.map st.ev) (st.ev m))
  | .fieldAddr s x f => st.keep (fieldAddrD P s (st.ev x) f)
  | .field t x f => match fieldT P t f, st.ev x with
    | some (o, ft), .agg ds => st.keep (takeD P ft ds o)
    | _, _ => none
  | .indexAddr t x i => st.keep (indexAddrD P (hmG own o.dst st.H) t (st.ev x) (st.ev i))
  | .index t x i => st.keep (indexD P t (st.ev x) (st.ev i))
  | .extract x i => match st.ev x with
    | .tup ds => st.keep ds[i]?
    | _ => none
  | .nilCheck x => match st.ev x with
    | .rptr d => some (.rptr d, st.H, st.nx)
    | .ptr id off => some (.ptr id off, st.H, st.nx)
    | _ => none
  | .call c => match c.callee with
    | .builtin b => match b, c.args.toList, c.argTypes.toList with
      | .len, [x], [t] => st.keep (lenD P (hmG own o.dst st.H) t (st.ev x))
      | .max, [x, y], _ => st.keep (maxD (st.ev x) (st.ev y))
      | .min, [x, y], _ => st.keep (minD (st.ev x) (st.ev y))
      | .append, [x, y], [t, u] => if t = u then
          (if isMark 1000000 own o.dst = true then st.keep (appendE P st.H t (st.ev x) (st.ev y))
          else if isMark 2000000 own o.dst = true then (appendD P st.H st.nx t (st.ev x) (st.ev y)).bind (shutR P)
          else appendD P st.H st.nx t (st.ev x) (st.ev y)) else none
      | _, _, _ => none
    | _ => none
  | _ => none

end Go.Proofs.Ytjibdljdkgedcaa.Abs
