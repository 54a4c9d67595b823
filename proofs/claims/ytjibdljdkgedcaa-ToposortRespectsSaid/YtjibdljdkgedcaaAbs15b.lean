/-
  The evaluation of regions, an operation at a time, as rewrite rules. No condition.
-/
import Derived.Test.YtjibdljdkgedcaaAbs15
set_option linter.unusedSimpArgs false
set_option linter.unusedVariables false
namespace Go.Proofs.Ytjibdljdkgedcaa.Abs
open Go.RowKit

/-- What follows an operation: the rest of the region, at the state behind it. -/
def stepO (o : Option D) (f : List Oper → (St → Prop) → St → Prop) (rest : List Oper) (K : St → Prop) (st : St) (dst : Option Nat) : Prop := match o with | some d => f rest K (st.put dst d) | none => False
def stepB (e : TypeId) (o : Option (List D)) (f : List Oper → (St → Prop) → St → Prop) (rest : List Oper) (K : St → Prop) (st : St) (dst : Option Nat) : Prop :=
  match o with | some cs => f rest K ((st.withH (updH st.H st.nx (some (.box e cs))) (st.nx + 1)).put dst (.ptr st.nx 0)) | none => False
def stepH (o : Option HM) (f : List Oper → (St → Prop) → St → Prop) (rest : List Oper) (K : St → Prop) (st : St) (dst : Option Nat) : Prop := match o with | some H => f rest K ((st.withH H st.nx).put dst .any) | none => False
def step3 (o : Option (D × HM × Nat)) (f : List Oper → (St → Prop) → St → Prop) (rest : List Oper) (K : St → Prop) (st : St) (dst : Option Nat) : Prop := match o with | some (d, H, nx) => f rest K ((st.withH H nx).put dst d) | none => False
def stepK (b : Bool) (p : Prop) : Prop := if b = true then p else False
def okA (own : List Nat) (dst : Option Nat) (st : St) : Bool := if isMark 7000000 own dst = true then decide (boundB own ≤ st.nx) else true
def okS (own : List Nat) (dst : Option Nat) (st : St) : Bool := if isMark 7000000 own dst = true ∧ isOwn own dst = true then decide (boundB own ≤ st.nx) else true
def okQ (own : List Nat) (dst : Option Nat) (st : St) (x : D) : Bool := if isMark 7000000 own dst = true then (match x with | .osl id _ => decide (boundB own ≤ id ∧ boundB own ≤ st.nx) | _ => decide (boundB own ≤ st.nx)) else true
theorem stepK_not (b : Bool) : stepK b False = False := by unfold stepK; split <;> rfl
def stepG (g : Option Bool) (f : List Oper → (St → Prop) → St → Prop) (o : Oper) (rest : List Oper) (K : St → Prop) (st : St) : Prop := match g with | some true => f (o :: rest) K st | some false => f rest K (st.put o.dst (.tup [])) | none => False
section
variable {f : List Oper → (St → Prop) → St → Prop} {rest : List Oper} {K : St → Prop} {st : St} {dst : Option Nat}
@[go_sem] theorem stepK_true (p : Prop) : stepK true p = p := by unfold stepK; simp
@[go_sem] theorem stepO_some (d : D) : stepO (some d) f rest K st dst = f rest K (st.put dst d) := rfl
@[go_sem] theorem stepB_some (e : TypeId) (cs : List D) : stepB e (some cs) f rest K st dst = f rest K ((st.withH (updH st.H st.nx (some (.box e cs))) (st.nx + 1)).put dst (.ptr st.nx 0)) := rfl
@[go_sem] theorem stepH_some (H : HM) : stepH (some H) f rest K st dst = f rest K ((st.withH H st.nx).put dst .any) := rfl
@[go_sem] theorem step3_some (d : D) (H : HM) (nx : Nat) : step3 (some (d, H, nx)) f rest K st dst = f rest K ((st.withH H nx).put dst d) := rfl
@[go_sem] theorem stepG_true (o : Oper) : stepG (some true) f o rest K st = f (o :: rest) K st := rfl
@[go_sem] theorem stepG_false {op : Op} {ty : TypeId} {pos : String} {aft : Array Edge} {g : Option (Nat × Bool)} : stepG (some false) f ⟨dst, op, ty, pos, aft, g⟩ rest K st = f rest K (st.put dst (.tup [])) := rfl
end

def assignD (P : Program) (own : List Nat) (dst : Option Nat) (ty : TypeId) (st : St) (x : D) : Option (D × HM × Nat) :=
  match x with
  | .nil => if isOwn own dst = true then (elemT P ty).map fun e => (.osl st.nx 0, updH st.H st.nx (some (.row e 0 [])), st.nx + 1) else some (.nil, st.H, st.nx)
  | d => some (d, st.H, st.nx)
def buildSliceD (P : Program) (own : List Nat) (dst : Option Nat) (st : St) (t : TypeId) (len : Nat) (is : List Nat) (els : List D) : Option (D × HM × Nat) :=
  match elemT P t with
  | some e =>
    if sizeT P e ≠ 0 ∧ rangeOK is 0 len = true ∧ len * sizeT P e ≤ 16777216 ∧ (len = 0 ∨ hasZero P e = true) then
      (cellsAll (sizeT P e) els).bind fun cs =>
        if isOwn own dst = true then some (.osl st.nx len, updH st.H st.nx (some (.row e len cs)), st.nx + 1)
        else if isMark 1000000 own dst = true ∧ len = 0 then some (.e0, st.H, st.nx)
        else some (.rsl true (sizeT P e) els, st.H, st.nx)
    else none
  | none => none
def appendG (P : Program) (own : List Nat) (dst : Option Nat) (st : St) (t : TypeId) (x y : D) : Option (D × HM × Nat) :=
  if isMark 1000000 own dst = true then (appendE P st.H t x y).map fun d => (d, st.H, st.nx)
  else if isMark 2000000 own dst = true then (appendD P st.H st.nx t x y).bind (shutR P)
  else appendD P st.H st.nx t x y
def makeSliceD (P : Program) (st : St) (t : TypeId) (l c : D) : Option (D × HM × Nat) :=
  match elemT P t, l, c with
  | some e, .int _ l, .int _ c => if l = c ∧ 0 ≤ l ∧ l.toNat * bytesT P e ≤ 140737488355328 ∧ l ≤ 9223372036854775807 ∧ 0 < sizeT P e then
      (zeroT P e).map fun zs => (.osl st.nx l.toNat, updH st.H st.nx (some (.row e l.toNat (List.replicate l.toNat zs).flatten)), st.nx + 1) else none
  | _, _, _ => none
def fieldD (P : Program) (t : TypeId) (x : D) (f : Nat) : Option D :=
  match fieldT P t f, x with
  | some (o, ft), .agg ds => takeD P ft ds o
  | _, _ => none
def extractD (x : D) (i : Nat) : Option D := match x with | .tup ds => ds[i]? | _ => none
def nilCheckD (x : D) : Option D := match x with | .rptr d => some (.rptr d) | .ptr id off => some (.ptr id off) | _ => none
attribute [go_sem] isMark loadG loadB hmG boundB cutB okA okS okQ okT slotOf touchOf appendG appendE shutR oneOK pureD pureD.pureL
@[go_sem] theorem groupD_zero (ag : Bool) (sz : Nat) (cs : List D) : groupD ag sz 0 cs = [] := rfl
@[go_sem] theorem groupD_cons (ag : Bool) (sz n : Nat) (c : D) (cs : List D) : groupD ag sz (n + 1) (c :: cs) = (if ag = true then .agg ((c :: cs).take sz) else c) :: groupD ag sz n ((c :: cs).drop sz) := rfl
attribute [go_sem] lookupD updateD esD lookR updR setVal eqK findD
attribute [go_sem] isOwn rangeOK assignD buildSliceD convD convS rangeD nextD unbyte u8T makeSliceD fieldD extractD nilCheckD

@[go_sem] theorem ev_tmp (st : St) (i : Nat) : st.ev (.tmp i) = st.t i := rfl
@[go_sem] theorem ev_const (st : St) (v : Value) : st.ev (.const v) = ofVal v := rfl
@[go_sem] theorem ev_func (st : St) (f : FuncId) : st.ev (.func f) = .fn f [] := rfl
@[go_sem] theorem ev_global (st : St) (g : Nat) : st.ev (.global g) = globD g := rfl
attribute [go_sem] globD
@[go_sem] theorem put_none (st : St) (d : D) : st.put none d = st := rfl
@[go_sem] theorem t_put (st : St) (i j : Nat) (d : D) : (st.put (some i) d).t j = cond (j == i) d (st.t j) := by
  simp only [St.put, updT]
  by_cases h : j = i
  · subst h; simp
  · have : (j == i) = false := by simpa using h
    rw [if_neg h, this]; rfl
attribute [go_sem] id_eq List.map_cons List.map_nil
@[go_sem] theorem H_put (st : St) (dst : Option Nat) (d : D) : (st.put dst d).H = st.H := put_H st dst d
@[go_sem] theorem nx_put (st : St) (dst : Option Nat) (d : D) : (st.put dst d).nx = st.nx := put_nx st dst d
@[go_sem] theorem t_withH (st : St) (H : HM) (nx j : Nat) : (st.withH H nx).t j = st.t j := rfl
@[go_sem] theorem H_withH (st : St) (H : HM) (nx : Nat) : (st.withH H nx).H = H := rfl
@[go_sem] theorem nx_withH (st : St) (H : HM) (nx : Nat) : (st.withH H nx).nx = nx := rfl
@[go_sem] theorem withH_id (st : St) : st.withH st.H st.nx = st := rfl
@[go_sem] theorem t_st0 (ds : List D) (H : HM) (nx i : Nat) : (st0 ds H nx).t i = (ds[i]?).getD .any := rfl
@[go_sem] theorem H_st0 (ds : List D) (H : HM) (nx : Nat) : (st0 ds H nx).H = H := rfl
@[go_sem] theorem nx_st0 (ds : List D) (H : HM) (nx : Nat) : (st0 ds H nx).nx = nx := rfl
@[go_sem] theorem updH_at (H : HM) (i j : Nat) (o : Option HObj) : updH H i o j = cond (j == i) o (H j) := by
  unfold updH
  by_cases h : j = i
  · subst h; simp
  · have : (j == i) = false := by simpa using h
    rw [if_neg h, this]; rfl
attribute [go_sem] cond_true cond_false
@[go_sem] theorem beq_tt (b : Bool) : (b == true) = b := by cases b <;> rfl
@[go_sem] theorem beq_ff (b : Bool) : (b == false) = !b := by cases b <;> rfl

section
variable {P : Program} {own : List Nat} {ops : List (Option Nat)} {rest : List Oper} {K : St → Prop} {st : St} {dst : Option Nat} {ty : TypeId} {pos : String} {aft : Array Edge}
@[go_sem] theorem awpL_nil : awpL P own ops [] K st = K st := rfl
@[go_sem] theorem awpD_nil : awpD P own ops [] K st = K st := rfl
/-- A guarded operation. -/
def guardG (ops : List (Option Nat)) (st : St) (j : Nat) (want : Bool) : Option Bool :=
  match (ops[j]?).bind id with
  | some i => match st.t i with
    | .bool b => some (b == want)
    | .tup _ => some false
    | _ => none
  | none => none
attribute [go_sem] guardG
@[go_sem] theorem awpL_guard {op : Op} {j : Nat} {want : Bool} : awpL P own ops (⟨dst, op, ty, pos, aft, some (j, want)⟩ :: rest) K st = stepG (guardG ops st j want) (awpL P own ops) ⟨dst, op, ty, pos, aft, none⟩ rest K st := by
  have h : guardS ops st ⟨dst, op, ty, pos, aft, some (j, want)⟩ = guardG ops st j want := rfl
  have h2 : guardS ops st ⟨dst, op, ty, pos, aft, none⟩ = some true := rfl
  simp only [awpL, h, h2]
  cases guardG ops st j want with
  | none => rfl
  | some g => cases g <;> rfl
@[go_sem] theorem awpD_guard {op : Op} {j : Nat} {want : Bool} : awpD P own ops (⟨dst, op, ty, pos, aft, some (j, want)⟩ :: rest) K st = stepG (guardG ops st j want) (awpD P own ops) ⟨dst, op, ty, pos, aft, none⟩ rest K st := by
  have h : guardS ops st ⟨dst, op, ty, pos, aft, some (j, want)⟩ = guardG ops st j want := rfl
  have h2 : guardS ops st ⟨dst, op, ty, pos, aft, none⟩ = some true := rfl
  simp only [awpD, h, h2]
  cases guardG ops st j want with
  | none => rfl
  | some g => cases g <;> rfl
@[go_sem] theorem awpL_move {x : Operand} : awpL P own ops (⟨dst, .move x, ty, pos, aft, none⟩ :: rest) K st = awpL P own ops rest K (st.put dst (st.ev x)) := by
  rfl
@[go_sem] theorem awpD_move {x : Operand} : awpD P own ops (⟨dst, .move x, ty, pos, aft, none⟩ :: rest) K st = awpD P own ops rest K (st.put dst (st.ev x)) := by
  rfl
@[go_sem] theorem awpL_assign {x : Operand} : awpL P own ops (⟨dst, .assign x, ty, pos, aft, none⟩ :: rest) K st = step3 (assignD P own dst ty st (st.ev x)) (awpL P own ops) rest K st dst := by
  show (match opR P own ⟨dst, .assign x, ty, pos, aft, none⟩ st with | some (d, H, nx) => awpL P own ops rest K ({ st with H := H, nx := nx }.put dst d) | none => False) = _
  have h : opR P own ⟨dst, .assign x, ty, pos, aft, none⟩ st = assignD P own dst ty st (st.ev x) := by
    first | rfl | (simp only [opR, assignD]; split <;> rfl)
  rw [h]; cases (assignD P own dst ty st (st.ev x)) <;> rfl
@[go_sem] theorem awpD_assign {x : Operand} : awpD P own ops (⟨dst, .assign x, ty, pos, aft, none⟩ :: rest) K st = step3 (assignD P own dst ty st (st.ev x)) (awpD P own ops) rest K st dst := by
  show (match opR P own ⟨dst, .assign x, ty, pos, aft, none⟩ st with | some (d, H, nx) => awpD P own ops rest K ({ st with H := H, nx := nx }.put dst d) | none => False) = _
  have h : opR P own ⟨dst, .assign x, ty, pos, aft, none⟩ st = assignD P own dst ty st (st.ev x) := by
    first | rfl | (simp only [opR, assignD]; split <;> rfl)
  rw [h]; cases (assignD P own dst ty st (st.ev x)) <;> rfl
@[go_sem] theorem awpL_pick {c a b : Operand} : awpL P own ops (⟨dst, .pick c a b, ty, pos, aft, none⟩ :: rest) K st = stepO (pickD (st.ev c) (st.ev a) (st.ev b)) (awpL P own ops) rest K st dst := by
  show (match opR P own ⟨dst, .pick c a b, ty, pos, aft, none⟩ st with | some (d, H, nx) => awpL P own ops rest K ({ st with H := H, nx := nx }.put dst d) | none => False) = _
  have h : opR P own ⟨dst, .pick c a b, ty, pos, aft, none⟩ st = st.keep (pickD (st.ev c) (st.ev a) (st.ev b)) := by
    first | rfl | simp only [opR]
  rw [h]; cases (pickD (st.ev c) (st.ev a) (st.ev b)) <;> rfl
@[go_sem] theorem awpD_pick {c a b : Operand} : awpD P own ops (⟨dst, .pick c a b, ty, pos, aft, none⟩ :: rest) K st = stepO (pickD (st.ev c) (st.ev a) (st.ev b)) (awpD P own ops) rest K st dst := by
  show (match opR P own ⟨dst, .pick c a b, ty, pos, aft, none⟩ st with | some (d, H, nx) => awpD P own ops rest K ({ st with H := H, nx := nx }.put dst d) | none => False) = _
  have h : opR P own ⟨dst, .pick c a b, ty, pos, aft, none⟩ st = st.keep (pickD (st.ev c) (st.ev a) (st.ev b)) := by
    first | rfl | simp only [opR]
  rw [h]; cases (pickD (st.ev c) (st.ev a) (st.ev b)) <;> rfl
@[go_sem] theorem awpL_alloc {e : TypeId} : awpL P own ops (⟨dst, .alloc e, ty, pos, aft, none⟩ :: rest) K st = stepB e (zeroT P e) (awpL P own ops) rest K st dst := by
  show (match opR P own ⟨dst, .alloc e, ty, pos, aft, none⟩ st with | some (d, H, nx) => awpL P own ops rest K ({ st with H := H, nx := nx }.put dst d) | none => False) = _
  have h : opR P own ⟨dst, .alloc e, ty, pos, aft, none⟩ st = (zeroT P e).map fun x => (.ptr st.nx 0, updH st.H st.nx (some (.box e x)), st.nx + 1) := by rfl
  rw [h]; cases (zeroT P e) <;> rfl
@[go_sem] theorem awpD_alloc {e : TypeId} : awpD P own ops (⟨dst, .alloc e, ty, pos, aft, none⟩ :: rest) K st = stepK (okA own dst st) (stepB e (zeroT P e) (awpD P own ops) rest K st dst) := by
  show (match opR P own ⟨dst, .alloc e, ty, pos, aft, none⟩ st with | some (d, H, nx) => stepK (okA own dst st) (awpD P own ops rest K ({ st with H := H, nx := nx }.put dst d)) | none => False) = _
  have h : opR P own ⟨dst, .alloc e, ty, pos, aft, none⟩ st = (zeroT P e).map fun x => (.ptr st.nx 0, updH st.H st.nx (some (.box e x)), st.nx + 1) := by rfl
  rw [h]; cases (zeroT P e) <;> first | exact (stepK_not _).symm | rfl
@[go_sem] theorem awpL_box {e : TypeId} {x : Operand} : awpL P own ops (⟨dst, .box e x, ty, pos, aft, none⟩ :: rest) K st = stepB e (cellsD (st.ev x)) (awpL P own ops) rest K st dst := by
  show (match opR P own ⟨dst, .box e x, ty, pos, aft, none⟩ st with | some (d, H, nx) => awpL P own ops rest K ({ st with H := H, nx := nx }.put dst d) | none => False) = _
  have h : opR P own ⟨dst, .box e x, ty, pos, aft, none⟩ st = (cellsD (st.ev x)).map fun x => (.ptr st.nx 0, updH st.H st.nx (some (.box e x)), st.nx + 1) := by rfl
  rw [h]; cases (cellsD (st.ev x)) <;> rfl
@[go_sem] theorem awpD_box {e : TypeId} {x : Operand} : awpD P own ops (⟨dst, .box e x, ty, pos, aft, none⟩ :: rest) K st = stepB e (cellsD (st.ev x)) (awpD P own ops) rest K st dst := by
  show (match opR P own ⟨dst, .box e x, ty, pos, aft, none⟩ st with | some (d, H, nx) => awpD P own ops rest K ({ st with H := H, nx := nx }.put dst d) | none => False) = _
  have h : opR P own ⟨dst, .box e x, ty, pos, aft, none⟩ st = (cellsD (st.ev x)).map fun x => (.ptr st.nx 0, updH st.H st.nx (some (.box e x)), st.nx + 1) := by rfl
  rw [h]; cases (cellsD (st.ev x)) <;> rfl
@[go_sem] theorem awpL_build {t : TypeId} {parts : Array (Nat × Operand)} : awpL P own ops (⟨dst, .build t parts, ty, pos, aft, none⟩ :: rest) K st = stepO (buildD P t (parts.toList.map fun (i, x) => (i, st.ev x))) (awpL P own ops) rest K st dst := by
  show (match opR P own ⟨dst, .build t parts, ty, pos, aft, none⟩ st with | some (d, H, nx) => awpL P own ops rest K ({ st with H := H, nx := nx }.put dst d) | none => False) = _
  have h : opR P own ⟨dst, .build t parts, ty, pos, aft, none⟩ st = st.keep (buildD P t (parts.toList.map fun (i, x) => (i, st.ev x))) := by
    first | rfl | simp only [opR]
  rw [h]; cases (buildD P t (parts.toList.map fun (i, x) => (i, st.ev x))) <;> rfl
@[go_sem] theorem awpD_build {t : TypeId} {parts : Array (Nat × Operand)} : awpD P own ops (⟨dst, .build t parts, ty, pos, aft, none⟩ :: rest) K st = stepO (buildD P t (parts.toList.map fun (i, x) => (i, st.ev x))) (awpD P own ops) rest K st dst := by
  show (match opR P own ⟨dst, .build t parts, ty, pos, aft, none⟩ st with | some (d, H, nx) => awpD P own ops rest K ({ st with H := H, nx := nx }.put dst d) | none => False) = _
  have h : opR P own ⟨dst, .build t parts, ty, pos, aft, none⟩ st = st.keep (buildD P t (parts.toList.map fun (i, x) => (i, st.ev x))) := by
    first | rfl | simp only [opR]
  rw [h]; cases (buildD P t (parts.toList.map fun (i, x) => (i, st.ev x))) <;> rfl
@[go_sem] theorem awpL_buildSlice {t : TypeId} {len : Nat} {parts : Array (Nat × Operand)} : awpL P own ops (⟨dst, .buildSlice t len parts, ty, pos, aft, none⟩ :: rest) K st = step3 (buildSliceD P own dst st t len (parts.toList.map (·.1)) (parts.toList.map fun x => st.ev x.2)) (awpL P own ops) rest K st dst := by
  show (match opR P own ⟨dst, .buildSlice t len parts, ty, pos, aft, none⟩ st with | some (d, H, nx) => awpL P own ops rest K ({ st with H := H, nx := nx }.put dst d) | none => False) = _
  have h : opR P own ⟨dst, .buildSlice t len parts, ty, pos, aft, none⟩ st = buildSliceD P own dst st t len (parts.toList.map (·.1)) (parts.toList.map fun x => st.ev x.2) := by
    first | rfl | (simp only [opR, buildSliceD])
  rw [h]; cases (buildSliceD P own dst st t len (parts.toList.map (·.1)) (parts.toList.map fun x => st.ev x.2)) <;> rfl
@[go_sem] theorem awpD_buildSlice {t : TypeId} {len : Nat} {parts : Array (Nat × Operand)} : awpD P own ops (⟨dst, .buildSlice t len parts, ty, pos, aft, none⟩ :: rest) K st = stepK (okS own dst st) (step3 (buildSliceD P own dst st t len (parts.toList.map (·.1)) (parts.toList.map fun x => st.ev x.2)) (awpD P own ops) rest K st dst) := by
  show (match opR P own ⟨dst, .buildSlice t len parts, ty, pos, aft, none⟩ st with | some (d, H, nx) => stepK (okS own dst st) (awpD P own ops rest K ({ st with H := H, nx := nx }.put dst d)) | none => False) = _
  have h : opR P own ⟨dst, .buildSlice t len parts, ty, pos, aft, none⟩ st = buildSliceD P own dst st t len (parts.toList.map (·.1)) (parts.toList.map fun x => st.ev x.2) := by
    first | rfl | (simp only [opR, buildSliceD])
  rw [h]; cases (buildSliceD P own dst st t len (parts.toList.map (·.1)) (parts.toList.map fun x => st.ev x.2)) <;> first | exact (stepK_not _).symm | rfl
@[go_sem] theorem awpL_load {t : TypeId} {p : Operand} : awpL P own ops (⟨dst, .load t p, ty, pos, aft, none⟩ :: rest) K st = stepO (loadG P own dst st.H st.nx t (st.ev p)) (awpL P own ops) rest K st dst := by
  show (match opR P own ⟨dst, .load t p, ty, pos, aft, none⟩ st with | some (d, H, nx) => awpL P own ops rest K ({ st with H := H, nx := nx }.put dst d) | none => False) = _
  have h : opR P own ⟨dst, .load t p, ty, pos, aft, none⟩ st = st.keep (loadG P own dst st.H st.nx t (st.ev p)) := by
    first | rfl | simp only [opR]
  rw [h]; cases (loadG P own dst st.H st.nx t (st.ev p)) <;> rfl
@[go_sem] theorem awpD_load {t : TypeId} {p : Operand} : awpD P own ops (⟨dst, .load t p, ty, pos, aft, none⟩ :: rest) K st = stepK (okT own dst (st.ev p)) (stepO (loadG P own dst st.H st.nx t (st.ev p)) (awpD P own ops) rest K st dst) := by
  show (match opR P own ⟨dst, .load t p, ty, pos, aft, none⟩ st with | some (d, H, nx) => stepK (okT own dst (st.ev p)) (awpD P own ops rest K ({ st with H := H, nx := nx }.put dst d)) | none => False) = _
  have h : opR P own ⟨dst, .load t p, ty, pos, aft, none⟩ st = st.keep (loadG P own dst st.H st.nx t (st.ev p)) := by
    first | rfl | simp only [opR]
  rw [h]; cases (loadG P own dst st.H st.nx t (st.ev p)) <;> first | exact (stepK_not _).symm | rfl
@[go_sem] theorem awpL_store {t : TypeId} {p v : Operand} : awpL P own ops (⟨dst, .store t p v, ty, pos, aft, none⟩ :: rest) K st = stepH (storeD P st.H t (st.ev p) (st.ev v)) (awpL P own ops) rest K st dst := by
  show (match opR P own ⟨dst, .store t p v, ty, pos, aft, none⟩ st with | some (d, H, nx) => awpL P own ops rest K ({ st with H := H, nx := nx }.put dst d) | none => False) = _
  have h : opR P own ⟨dst, .store t p v, ty, pos, aft, none⟩ st = (storeD P st.H t (st.ev p) (st.ev v)).map fun x => (.any, x, st.nx) := by rfl
  rw [h]; cases (storeD P st.H t (st.ev p) (st.ev v)) <;> rfl
@[go_sem] theorem awpD_store {t : TypeId} {p v : Operand} : awpD P own ops (⟨dst, .store t p v, ty, pos, aft, none⟩ :: rest) K st = stepK (okT own (slotOf p) (st.ev p)) (stepH (storeD P st.H t (st.ev p) (st.ev v)) (awpD P own ops) rest K st dst) := by
  show (match opR P own ⟨dst, .store t p v, ty, pos, aft, none⟩ st with | some (d, H, nx) => stepK (okT own (slotOf p) (st.ev p)) (awpD P own ops rest K ({ st with H := H, nx := nx }.put dst d)) | none => False) = _
  have h : opR P own ⟨dst, .store t p v, ty, pos, aft, none⟩ st = (storeD P st.H t (st.ev p) (st.ev v)).map fun x => (.any, x, st.nx) := by rfl
  rw [h]; cases (storeD P st.H t (st.ev p) (st.ev v)) <;> first | exact (stepK_not _).symm | rfl
@[go_sem] theorem awpL_makeMap {t : TypeId} : awpL P own ops (⟨dst, .makeMap t none, ty, pos, aft, none⟩ :: rest) K st = step3 ((mapT P t).map fun _ => (.mp st.nx, updH st.H st.nx (some (.map [])), st.nx + 1)) (awpL P own ops) rest K st dst := by
  show (match opR P own ⟨dst, .makeMap t none, ty, pos, aft, none⟩ st with | some (d, H, nx) => awpL P own ops rest K ({ st with H := H, nx := nx }.put dst d) | none => False) = _
  have h : opR P own ⟨dst, .makeMap t none, ty, pos, aft, none⟩ st = (mapT P t).map fun _ => (.mp st.nx, updH st.H st.nx (some (.map [])), st.nx + 1) := by rfl
  rw [h]
  cases mapT P t <;> rfl
@[go_sem] theorem awpD_makeMap {t : TypeId} : awpD P own ops (⟨dst, .makeMap t none, ty, pos, aft, none⟩ :: rest) K st = step3 ((mapT P t).map fun _ => (.mp st.nx, updH st.H st.nx (some (.map [])), st.nx + 1)) (awpD P own ops) rest K st dst := by
  show (match opR P own ⟨dst, .makeMap t none, ty, pos, aft, none⟩ st with | some (d, H, nx) => awpD P own ops rest K ({ st with H := H, nx := nx }.put dst d) | none => False) = _
  have h : opR P own ⟨dst, .makeMap t none, ty, pos, aft, none⟩ st = (mapT P t).map fun _ => (.mp st.nx, updH st.H st.nx (some (.map [])), st.nx + 1) := by rfl
  rw [h]
  cases mapT P t <;> rfl
@[go_sem] theorem awpL_range {t : TypeId} {x : Operand} : awpL P own ops (⟨dst, .range t x, ty, pos, aft, none⟩ :: rest) K st = step3 ((rangeD P t (st.ev x)).map fun q => (.it st.nx, updH st.H st.nx (some (.raw q)), st.nx + 1)) (awpL P own ops) rest K st dst := by
  show (match opR P own ⟨dst, .range t x, ty, pos, aft, none⟩ st with | some (d, H, nx) => awpL P own ops rest K ({ st with H := H, nx := nx }.put dst d) | none => False) = _
  have h : opR P own ⟨dst, .range t x, ty, pos, aft, none⟩ st = (rangeD P t (st.ev x)).map fun q => (.it st.nx, updH st.H st.nx (some (.raw q)), st.nx + 1) := by rfl
  rw [h]
  cases rangeD P t (st.ev x) <;> rfl
@[go_sem] theorem awpL_next {x : Operand} {b : Bool} : awpL P own ops (⟨dst, .next x b, ty, pos, aft, none⟩ :: rest) K st = step3 (nextD st.H st.nx b (st.ev x)) (awpL P own ops) rest K st dst := by
  show (match opR P own ⟨dst, .next x b, ty, pos, aft, none⟩ st with | some (d, H, nx) => awpL P own ops rest K ({ st with H := H, nx := nx }.put dst d) | none => False) = _
  have h : opR P own ⟨dst, .next x b, ty, pos, aft, none⟩ st = nextD st.H st.nx b (st.ev x) := by rfl
  rw [h]
  rcases nextD st.H st.nx b (st.ev x) with _ | ⟨d, H, nx⟩ <;> rfl
@[go_sem] theorem awpD_range {t : TypeId} {x : Operand} : awpD P own ops (⟨dst, .range t x, ty, pos, aft, none⟩ :: rest) K st = step3 ((rangeD P t (st.ev x)).map fun q => (.it st.nx, updH st.H st.nx (some (.raw q)), st.nx + 1)) (awpD P own ops) rest K st dst := by
  show (match opR P own ⟨dst, .range t x, ty, pos, aft, none⟩ st with | some (d, H, nx) => awpD P own ops rest K ({ st with H := H, nx := nx }.put dst d) | none => False) = _
  have h : opR P own ⟨dst, .range t x, ty, pos, aft, none⟩ st = (rangeD P t (st.ev x)).map fun q => (.it st.nx, updH st.H st.nx (some (.raw q)), st.nx + 1) := by rfl
  rw [h]
  cases rangeD P t (st.ev x) <;> rfl
@[go_sem] theorem awpD_next {x : Operand} {b : Bool} : awpD P own ops (⟨dst, .next x b, ty, pos, aft, none⟩ :: rest) K st = step3 (nextD st.H st.nx b (st.ev x)) (awpD P own ops) rest K st dst := by
  show (match opR P own ⟨dst, .next x b, ty, pos, aft, none⟩ st with | some (d, H, nx) => awpD P own ops rest K ({ st with H := H, nx := nx }.put dst d) | none => False) = _
  have h : opR P own ⟨dst, .next x b, ty, pos, aft, none⟩ st = nextD st.H st.nx b (st.ev x) := by rfl
  rw [h]
  rcases nextD st.H st.nx b (st.ev x) with _ | ⟨d, H, nx⟩ <;> rfl
@[go_sem] theorem awpL_lookup {t : TypeId} {x k : Operand} {ok : Bool} : awpL P own ops (⟨dst, .lookup t x k ok, ty, pos, aft, none⟩ :: rest) K st = stepO (lookupD P st.H t (st.ev x) (st.ev k) ok) (awpL P own ops) rest K st dst := by
  show (match opR P own ⟨dst, .lookup t x k ok, ty, pos, aft, none⟩ st with | some (d, H, nx) => awpL P own ops rest K ({ st with H := H, nx := nx }.put dst d) | none => False) = _
  have h : opR P own ⟨dst, .lookup t x k ok, ty, pos, aft, none⟩ st = st.keep (lookupD P st.H t (st.ev x) (st.ev k) ok) := by rfl
  rw [h]
  cases lookupD P st.H t (st.ev x) (st.ev k) ok <;> rfl
@[go_sem] theorem awpD_lookup {t : TypeId} {x k : Operand} {ok : Bool} : awpD P own ops (⟨dst, .lookup t x k ok, ty, pos, aft, none⟩ :: rest) K st = stepO (lookupD P st.H t (st.ev x) (st.ev k) ok) (awpD P own ops) rest K st dst := by
  show (match opR P own ⟨dst, .lookup t x k ok, ty, pos, aft, none⟩ st with | some (d, H, nx) => awpD P own ops rest K ({ st with H := H, nx := nx }.put dst d) | none => False) = _
  have h : opR P own ⟨dst, .lookup t x k ok, ty, pos, aft, none⟩ st = st.keep (lookupD P st.H t (st.ev x) (st.ev k) ok) := by rfl
  rw [h]
  cases lookupD P st.H t (st.ev x) (st.ev k) ok <;> rfl
@[go_sem] theorem awpL_mapUpdate {t : TypeId} {m k x : Operand} : awpL P own ops (⟨dst, .mapUpdate t m k x, ty, pos, aft, none⟩ :: rest) K st = stepH (updateD P st.H t (st.ev m) (st.ev k) (st.ev x)) (awpL P own ops) rest K st dst := by
  show (match opR P own ⟨dst, .mapUpdate t m k x, ty, pos, aft, none⟩ st with | some (d, H, nx) => awpL P own ops rest K ({ st with H := H, nx := nx }.put dst d) | none => False) = _
  have h : opR P own ⟨dst, .mapUpdate t m k x, ty, pos, aft, none⟩ st = (updateD P st.H t (st.ev m) (st.ev k) (st.ev x)).map fun x => (.any, x, st.nx) := by rfl
  rw [h]
  cases updateD P st.H t (st.ev m) (st.ev k) (st.ev x) <;> rfl
@[go_sem] theorem awpD_mapUpdate {t : TypeId} {m k x : Operand} : awpD P own ops (⟨dst, .mapUpdate t m k x, ty, pos, aft, none⟩ :: rest) K st = stepH (updateD P st.H t (st.ev m) (st.ev k) (st.ev x)) (awpD P own ops) rest K st dst := by
  show (match opR P own ⟨dst, .mapUpdate t m k x, ty, pos, aft, none⟩ st with | some (d, H, nx) => awpD P own ops rest K ({ st with H := H, nx := nx }.put dst d) | none => False) = _
  have h : opR P own ⟨dst, .mapUpdate t m k x, ty, pos, aft, none⟩ st = (updateD P st.H t (st.ev m) (st.ev k) (st.ev x)).map fun x => (.any, x, st.nx) := by rfl
  rw [h]
  cases updateD P st.H t (st.ev m) (st.ev k) (st.ev x) <;> rfl
@[go_sem] theorem awpL_insert {t : TypeId} {m k x : Operand} : awpL P own ops (⟨dst, .insert t m k x, ty, pos, aft, none⟩ :: rest) K st = stepH (updateD P st.H t (st.ev m) (st.ev k) (st.ev x)) (awpL P own ops) rest K st dst := by
  show (match opR P own ⟨dst, .insert t m k x, ty, pos, aft, none⟩ st with | some (d, H, nx) => awpL P own ops rest K ({ st with H := H, nx := nx }.put dst d) | none => False) = _
  have h : opR P own ⟨dst, .insert t m k x, ty, pos, aft, none⟩ st = (updateD P st.H t (st.ev m) (st.ev k) (st.ev x)).map fun x => (.any, x, st.nx) := by rfl
  rw [h]
  cases updateD P st.H t (st.ev m) (st.ev k) (st.ev x) <;> rfl
@[go_sem] theorem awpD_insert {t : TypeId} {m k x : Operand} : awpD P own ops (⟨dst, .insert t m k x, ty, pos, aft, none⟩ :: rest) K st = stepH (updateD P st.H t (st.ev m) (st.ev k) (st.ev x)) (awpD P own ops) rest K st dst := by
  show (match opR P own ⟨dst, .insert t m k x, ty, pos, aft, none⟩ st with | some (d, H, nx) => awpD P own ops rest K ({ st with H := H, nx := nx }.put dst d) | none => False) = _
  have h : opR P own ⟨dst, .insert t m k x, ty, pos, aft, none⟩ st = (updateD P st.H t (st.ev m) (st.ev k) (st.ev x)).map fun x => (.any, x, st.nx) := by rfl
  rw [h]
  cases updateD P st.H t (st.ev m) (st.ev k) (st.ev x) <;> rfl
@[go_sem] theorem awpL_binOp {op : BinOp} {t u : TypeId} {x y : Operand} : awpL P own ops (⟨dst, .binOp op t x y u, ty, pos, aft, none⟩ :: rest) K st = stepO (binD P op t (st.ev x) (st.ev y)) (awpL P own ops) rest K st dst := by
  show (match opR P own ⟨dst, .binOp op t x y u, ty, pos, aft, none⟩ st with | some (d, H, nx) => awpL P own ops rest K ({ st with H := H, nx := nx }.put dst d) | none => False) = _
  have h : opR P own ⟨dst, .binOp op t x y u, ty, pos, aft, none⟩ st = st.keep (binD P op t (st.ev x) (st.ev y)) := by
    first | rfl | simp only [opR]
  rw [h]; cases (binD P op t (st.ev x) (st.ev y)) <;> rfl
@[go_sem] theorem awpD_binOp {op : BinOp} {t u : TypeId} {x y : Operand} : awpD P own ops (⟨dst, .binOp op t x y u, ty, pos, aft, none⟩ :: rest) K st = stepO (binD P op t (st.ev x) (st.ev y)) (awpD P own ops) rest K st dst := by
  show (match opR P own ⟨dst, .binOp op t x y u, ty, pos, aft, none⟩ st with | some (d, H, nx) => awpD P own ops rest K ({ st with H := H, nx := nx }.put dst d) | none => False) = _
  have h : opR P own ⟨dst, .binOp op t x y u, ty, pos, aft, none⟩ st = st.keep (binD P op t (st.ev x) (st.ev y)) := by
    first | rfl | simp only [opR]
  rw [h]; cases (binD P op t (st.ev x) (st.ev y)) <;> rfl
@[go_sem] theorem awpL_unOp {op : UnOp} {t : TypeId} {x : Operand} : awpL P own ops (⟨dst, .unOp op t x, ty, pos, aft, none⟩ :: rest) K st = stepO (unD op (st.ev x)) (awpL P own ops) rest K st dst := by
  show (match opR P own ⟨dst, .unOp op t x, ty, pos, aft, none⟩ st with | some (d, H, nx) => awpL P own ops rest K ({ st with H := H, nx := nx }.put dst d) | none => False) = _
  have h : opR P own ⟨dst, .unOp op t x, ty, pos, aft, none⟩ st = st.keep (unD op (st.ev x)) := by
    first | rfl | simp only [opR]
  rw [h]; cases (unD op (st.ev x)) <;> rfl
@[go_sem] theorem awpD_unOp {op : UnOp} {t : TypeId} {x : Operand} : awpD P own ops (⟨dst, .unOp op t x, ty, pos, aft, none⟩ :: rest) K st = stepO (unD op (st.ev x)) (awpD P own ops) rest K st dst := by
  show (match opR P own ⟨dst, .unOp op t x, ty, pos, aft, none⟩ st with | some (d, H, nx) => awpD P own ops rest K ({ st with H := H, nx := nx }.put dst d) | none => False) = _
  have h : opR P own ⟨dst, .unOp op t x, ty, pos, aft, none⟩ st = st.keep (unD op (st.ev x)) := by
    first | rfl | simp only [opR]
  rw [h]; cases (unD op (st.ev x)) <;> rfl
@[go_sem] theorem awpL_convert {s t : TypeId} {x : Operand} : awpL P own ops (⟨dst, .convert s t x, ty, pos, aft, none⟩ :: rest) K st = stepO (convD P s t (st.ev x)) (awpL P own ops) rest K st dst := by
  show (match opR P own ⟨dst, .convert s t x, ty, pos, aft, none⟩ st with | some (d, H, nx) => awpL P own ops rest K ({ st with H := H, nx := nx }.put dst d) | none => False) = _
  have h : opR P own ⟨dst, .convert s t x, ty, pos, aft, none⟩ st = st.keep (convD P s t (st.ev x)) := by
    first | rfl | simp only [opR]
  rw [h]; cases (convD P s t (st.ev x)) <;> rfl
@[go_sem] theorem awpD_convert {s t : TypeId} {x : Operand} : awpD P own ops (⟨dst, .convert s t x, ty, pos, aft, none⟩ :: rest) K st = stepO (convD P s t (st.ev x)) (awpD P own ops) rest K st dst := by
  show (match opR P own ⟨dst, .convert s t x, ty, pos, aft, none⟩ st with | some (d, H, nx) => awpD P own ops rest K ({ st with H := H, nx := nx }.put dst d) | none => False) = _
  have h : opR P own ⟨dst, .convert s t x, ty, pos, aft, none⟩ st = st.keep (convD P s t (st.ev x)) := by
    first | rfl | simp only [opR]
  rw [h]; cases (convD P s t (st.ev x)) <;> rfl
@[go_sem] theorem awpL_makeFunc {f : FuncId} {cap : Array Operand} : awpL P own ops (⟨dst, .makeFunc (.func f) #[] cap, ty, pos, aft, none⟩ :: rest) K st = awpL P own ops rest K (st.put dst (.fn f (cap.toList.map st.ev))) := by
  rfl
@[go_sem] theorem awpD_makeFunc {f : FuncId} {cap : Array Operand} : awpD P own ops (⟨dst, .makeFunc (.func f) #[] cap, ty, pos, aft, none⟩ :: rest) K st = awpD P own ops rest K (st.put dst (.fn f (cap.toList.map st.ev))) := by
  rfl
@[go_sem] theorem awpL_makeSlice {t : TypeId} {l c : Operand} : awpL P own ops (⟨dst, .makeSlice t l c, ty, pos, aft, none⟩ :: rest) K st = step3 (makeSliceD P st t (st.ev l) (st.ev c)) (awpL P own ops) rest K st dst := by
  show (match opR P own ⟨dst, .makeSlice t l c, ty, pos, aft, none⟩ st with | some (d, H, nx) => awpL P own ops rest K ({ st with H := H, nx := nx }.put dst d) | none => False) = _
  have h : opR P own ⟨dst, .makeSlice t l c, ty, pos, aft, none⟩ st = makeSliceD P st t (st.ev l) (st.ev c) := by
    first | rfl | (simp only [opR, makeSliceD]; split <;> rfl)
  rw [h]; cases (makeSliceD P st t (st.ev l) (st.ev c)) <;> rfl
@[go_sem] theorem awpD_makeSlice {t : TypeId} {l c : Operand} : awpD P own ops (⟨dst, .makeSlice t l c, ty, pos, aft, none⟩ :: rest) K st = step3 (makeSliceD P st t (st.ev l) (st.ev c)) (awpD P own ops) rest K st dst := by
  show (match opR P own ⟨dst, .makeSlice t l c, ty, pos, aft, none⟩ st with | some (d, H, nx) => awpD P own ops rest K ({ st with H := H, nx := nx }.put dst d) | none => False) = _
  have h : opR P own ⟨dst, .makeSlice t l c, ty, pos, aft, none⟩ st = makeSliceD P st t (st.ev l) (st.ev c) := by
    first | rfl | (simp only [opR, makeSliceD]; split <;> rfl)
  rw [h]; cases (makeSliceD P st t (st.ev l) (st.ev c)) <;> rfl
@[go_sem] theorem awpL_slice {t : TypeId} {x : Operand} {lo hi : Option Operand} : awpL P own ops (⟨dst, .slice t x lo hi none, ty, pos, aft, none⟩ :: rest) K st = stepO (sliceD P t (st.ev x) (lo.map st.ev) (hi.map st.ev)) (awpL P own ops) rest K st dst := by
  show (match opR P own ⟨dst, .slice t x lo hi none, ty, pos, aft, none⟩ st with | some (d, H, nx) => awpL P own ops rest K ({ st with H := H, nx := nx }.put dst d) | none => False) = _
  have h : opR P own ⟨dst, .slice t x lo hi none, ty, pos, aft, none⟩ st = st.keep (sliceD P t (st.ev x) (lo.map st.ev) (hi.map st.ev)) := by
    first | rfl | simp only [opR]
  rw [h]; cases (sliceD P t (st.ev x) (lo.map st.ev) (hi.map st.ev)) <;> rfl
@[go_sem] theorem awpD_slice {t : TypeId} {x : Operand} {lo hi : Option Operand} : awpD P own ops (⟨dst, .slice t x lo hi none, ty, pos, aft, none⟩ :: rest) K st = stepO (sliceD P t (st.ev x) (lo.map st.ev) (hi.map st.ev)) (awpD P own ops) rest K st dst := by
  show (match opR P own ⟨dst, .slice t x lo hi none, ty, pos, aft, none⟩ st with | some (d, H, nx) => awpD P own ops rest K ({ st with H := H, nx := nx }.put dst d) | none => False) = _
  have h : opR P own ⟨dst, .slice t x lo hi none, ty, pos, aft, none⟩ st = st.keep (sliceD P t (st.ev x) (lo.map st.ev) (hi.map st.ev)) := by
    first | rfl | simp only [opR]
  rw [h]; cases (sliceD P t (st.ev x) (lo.map st.ev) (hi.map st.ev)) <;> rfl
@[go_sem] theorem awpL_slice3 {t : TypeId} {x m : Operand} {lo hi : Option Operand} : awpL P own ops (⟨dst, .slice t x lo hi (some m), ty, pos, aft, none⟩ :: rest) K st = stepO (slice3D P t (st.ev x) (lo.map st.ev) (hi.map st.ev) (st.ev m)) (awpL P own ops) rest K st dst := by
  show (match opR P own ⟨dst, .slice t x lo hi (some m), ty, pos, aft, none⟩ st with | some (d, H, nx) => awpL P own ops rest K ({ st with H := H, nx := nx }.put dst d) | none => False) = _
  have h : opR P own ⟨dst, .slice t x lo hi (some m), ty, pos, aft, none⟩ st = st.keep (slice3D P t (st.ev x) (lo.map st.ev) (hi.map st.ev) (st.ev m)) := by
    first | rfl | simp only [opR]
  rw [h]; cases (slice3D P t (st.ev x) (lo.map st.ev) (hi.map st.ev) (st.ev m)) <;> rfl
@[go_sem] theorem awpD_slice3 {t : TypeId} {x m : Operand} {lo hi : Option Operand} : awpD P own ops (⟨dst, .slice t x lo hi (some m), ty, pos, aft, none⟩ :: rest) K st = stepO (slice3D P t (st.ev x) (lo.map st.ev) (hi.map st.ev) (st.ev m)) (awpD P own ops) rest K st dst := by
  show (match opR P own ⟨dst, .slice t x lo hi (some m), ty, pos, aft, none⟩ st with | some (d, H, nx) => awpD P own ops rest K ({ st with H := H, nx := nx }.put dst d) | none => False) = _
  have h : opR P own ⟨dst, .slice t x lo hi (some m), ty, pos, aft, none⟩ st = st.keep (slice3D P t (st.ev x) (lo.map st.ev) (hi.map st.ev) (st.ev m)) := by
    first | rfl | simp only [opR]
  rw [h]; cases (slice3D P t (st.ev x) (lo.map st.ev) (hi.map st.ev) (st.ev m)) <;> rfl
@[go_sem] theorem awpL_fieldAddr {t : TypeId} {x : Operand} {f : Nat} : awpL P own ops (⟨dst, .fieldAddr t x f, ty, pos, aft, none⟩ :: rest) K st = stepO (fieldAddrD P t (st.ev x) f) (awpL P own ops) rest K st dst := by
  show (match opR P own ⟨dst, .fieldAddr t x f, ty, pos, aft, none⟩ st with | some (d, H, nx) => awpL P own ops rest K ({ st with H := H, nx := nx }.put dst d) | none => False) = _
  have h : opR P own ⟨dst, .fieldAddr t x f, ty, pos, aft, none⟩ st = st.keep (fieldAddrD P t (st.ev x) f) := by
    first | rfl | simp only [opR]
  rw [h]; cases (fieldAddrD P t (st.ev x) f) <;> rfl
@[go_sem] theorem awpD_fieldAddr {t : TypeId} {x : Operand} {f : Nat} : awpD P own ops (⟨dst, .fieldAddr t x f, ty, pos, aft, none⟩ :: rest) K st = stepO (fieldAddrD P t (st.ev x) f) (awpD P own ops) rest K st dst := by
  show (match opR P own ⟨dst, .fieldAddr t x f, ty, pos, aft, none⟩ st with | some (d, H, nx) => awpD P own ops rest K ({ st with H := H, nx := nx }.put dst d) | none => False) = _
  have h : opR P own ⟨dst, .fieldAddr t x f, ty, pos, aft, none⟩ st = st.keep (fieldAddrD P t (st.ev x) f) := by
    first | rfl | simp only [opR]
  rw [h]; cases (fieldAddrD P t (st.ev x) f) <;> rfl
@[go_sem] theorem awpL_field {t : TypeId} {x : Operand} {f : Nat} : awpL P own ops (⟨dst, .field t x f, ty, pos, aft, none⟩ :: rest) K st = stepO (fieldD P t (st.ev x) f) (awpL P own ops) rest K st dst := by
  show (match opR P own ⟨dst, .field t x f, ty, pos, aft, none⟩ st with | some (d, H, nx) => awpL P own ops rest K ({ st with H := H, nx := nx }.put dst d) | none => False) = _
  have h : opR P own ⟨dst, .field t x f, ty, pos, aft, none⟩ st = st.keep (fieldD P t (st.ev x) f) := by
    simp only [opR, fieldD]; split <;> first | rfl | (rename_i h1 h2; simp only [h1, h2]) | (split <;> first | rfl | simp_all [St.keep])
  rw [h]; cases (fieldD P t (st.ev x) f) <;> rfl
@[go_sem] theorem awpD_field {t : TypeId} {x : Operand} {f : Nat} : awpD P own ops (⟨dst, .field t x f, ty, pos, aft, none⟩ :: rest) K st = stepO (fieldD P t (st.ev x) f) (awpD P own ops) rest K st dst := by
  show (match opR P own ⟨dst, .field t x f, ty, pos, aft, none⟩ st with | some (d, H, nx) => awpD P own ops rest K ({ st with H := H, nx := nx }.put dst d) | none => False) = _
  have h : opR P own ⟨dst, .field t x f, ty, pos, aft, none⟩ st = st.keep (fieldD P t (st.ev x) f) := by
    simp only [opR, fieldD]; split <;> first | rfl | (rename_i h1 h2; simp only [h1, h2]) | (split <;> first | rfl | simp_all [St.keep])
  rw [h]; cases (fieldD P t (st.ev x) f) <;> rfl
@[go_sem] theorem awpL_indexAddr {t : TypeId} {x i : Operand} : awpL P own ops (⟨dst, .indexAddr t x i, ty, pos, aft, none⟩ :: rest) K st = stepO (indexAddrD P (hmG own dst st.H) t (st.ev x) (st.ev i)) (awpL P own ops) rest K st dst := by
  show (match opR P own ⟨dst, .indexAddr t x i, ty, pos, aft, none⟩ st with | some (d, H, nx) => awpL P own ops rest K ({ st with H := H, nx := nx }.put dst d) | none => False) = _
  have h : opR P own ⟨dst, .indexAddr t x i, ty, pos, aft, none⟩ st = st.keep (indexAddrD P (hmG own dst st.H) t (st.ev x) (st.ev i)) := by
    first | rfl | simp only [opR]
  rw [h]; cases (indexAddrD P (hmG own dst st.H) t (st.ev x) (st.ev i)) <;> rfl
@[go_sem] theorem awpD_indexAddr {t : TypeId} {x i : Operand} : awpD P own ops (⟨dst, .indexAddr t x i, ty, pos, aft, none⟩ :: rest) K st = stepO (indexAddrD P (hmG own dst st.H) t (st.ev x) (st.ev i)) (awpD P own ops) rest K st dst := by
  show (match opR P own ⟨dst, .indexAddr t x i, ty, pos, aft, none⟩ st with | some (d, H, nx) => awpD P own ops rest K ({ st with H := H, nx := nx }.put dst d) | none => False) = _
  have h : opR P own ⟨dst, .indexAddr t x i, ty, pos, aft, none⟩ st = st.keep (indexAddrD P (hmG own dst st.H) t (st.ev x) (st.ev i)) := by
    first | rfl | simp only [opR]
  rw [h]; cases (indexAddrD P (hmG own dst st.H) t (st.ev x) (st.ev i)) <;> rfl
@[go_sem] theorem awpL_index {t : TypeId} {x i : Operand} : awpL P own ops (⟨dst, .index t x i, ty, pos, aft, none⟩ :: rest) K st = stepO (indexD P t (st.ev x) (st.ev i)) (awpL P own ops) rest K st dst := by
  show (match opR P own ⟨dst, .index t x i, ty, pos, aft, none⟩ st with | some (d, H, nx) => awpL P own ops rest K ({ st with H := H, nx := nx }.put dst d) | none => False) = _
  have h : opR P own ⟨dst, .index t x i, ty, pos, aft, none⟩ st = st.keep (indexD P t (st.ev x) (st.ev i)) := by
    first | rfl | simp only [opR]
  rw [h]; cases (indexD P t (st.ev x) (st.ev i)) <;> rfl
@[go_sem] theorem awpD_index {t : TypeId} {x i : Operand} : awpD P own ops (⟨dst, .index t x i, ty, pos, aft, none⟩ :: rest) K st = stepO (indexD P t (st.ev x) (st.ev i)) (awpD P own ops) rest K st dst := by
  show (match opR P own ⟨dst, .index t x i, ty, pos, aft, none⟩ st with | some (d, H, nx) => awpD P own ops rest K ({ st with H := H, nx := nx }.put dst d) | none => False) = _
  have h : opR P own ⟨dst, .index t x i, ty, pos, aft, none⟩ st = st.keep (indexD P t (st.ev x) (st.ev i)) := by
    first | rfl | simp only [opR]
  rw [h]; cases (indexD P t (st.ev x) (st.ev i)) <;> rfl
@[go_sem] theorem awpL_extract {x : Operand} {i : Nat} : awpL P own ops (⟨dst, .extract x i, ty, pos, aft, none⟩ :: rest) K st = stepO (extractD (st.ev x) i) (awpL P own ops) rest K st dst := by
  show (match opR P own ⟨dst, .extract x i, ty, pos, aft, none⟩ st with | some (d, H, nx) => awpL P own ops rest K ({ st with H := H, nx := nx }.put dst d) | none => False) = _
  have h : opR P own ⟨dst, .extract x i, ty, pos, aft, none⟩ st = st.keep (extractD (st.ev x) i) := by
    simp only [opR, extractD]; generalize st.ev x = v; cases v <;> rfl
  rw [h]; cases (extractD (st.ev x) i) <;> rfl
@[go_sem] theorem awpD_extract {x : Operand} {i : Nat} : awpD P own ops (⟨dst, .extract x i, ty, pos, aft, none⟩ :: rest) K st = stepO (extractD (st.ev x) i) (awpD P own ops) rest K st dst := by
  show (match opR P own ⟨dst, .extract x i, ty, pos, aft, none⟩ st with | some (d, H, nx) => awpD P own ops rest K ({ st with H := H, nx := nx }.put dst d) | none => False) = _
  have h : opR P own ⟨dst, .extract x i, ty, pos, aft, none⟩ st = st.keep (extractD (st.ev x) i) := by
    simp only [opR, extractD]; generalize st.ev x = v; cases v <;> rfl
  rw [h]; cases (extractD (st.ev x) i) <;> rfl
@[go_sem] theorem awpL_nilCheck {x : Operand} : awpL P own ops (⟨dst, .nilCheck x, ty, pos, aft, none⟩ :: rest) K st = stepO (nilCheckD (st.ev x)) (awpL P own ops) rest K st dst := by
  show (match opR P own ⟨dst, .nilCheck x, ty, pos, aft, none⟩ st with | some (d, H, nx) => awpL P own ops rest K ({ st with H := H, nx := nx }.put dst d) | none => False) = _
  have h : opR P own ⟨dst, .nilCheck x, ty, pos, aft, none⟩ st = st.keep (nilCheckD (st.ev x)) := by
    simp only [opR, nilCheckD]; generalize st.ev x = v; cases v <;> rfl
  rw [h]; cases (nilCheckD (st.ev x)) <;> rfl
@[go_sem] theorem awpD_nilCheck {x : Operand} : awpD P own ops (⟨dst, .nilCheck x, ty, pos, aft, none⟩ :: rest) K st = stepO (nilCheckD (st.ev x)) (awpD P own ops) rest K st dst := by
  show (match opR P own ⟨dst, .nilCheck x, ty, pos, aft, none⟩ st with | some (d, H, nx) => awpD P own ops rest K ({ st with H := H, nx := nx }.put dst d) | none => False) = _
  have h : opR P own ⟨dst, .nilCheck x, ty, pos, aft, none⟩ st = st.keep (nilCheckD (st.ev x)) := by
    simp only [opR, nilCheckD]; generalize st.ev x = v; cases v <;> rfl
  rw [h]; cases (nilCheckD (st.ev x)) <;> rfl
@[go_sem] theorem awpL_len {x : Operand} {t : TypeId} : awpL P own ops (⟨dst, .call ⟨.builtin .len, #[x], #[t]⟩, ty, pos, aft, none⟩ :: rest) K st = stepO (lenD P (hmG own dst st.H) t (st.ev x)) (awpL P own ops) rest K st dst := by
  show (match opR P own ⟨dst, .call ⟨.builtin .len, #[x], #[t]⟩, ty, pos, aft, none⟩ st with | some (d, H, nx) => awpL P own ops rest K ({ st with H := H, nx := nx }.put dst d) | none => False) = _
  have h : opR P own ⟨dst, .call ⟨.builtin .len, #[x], #[t]⟩, ty, pos, aft, none⟩ st = st.keep (lenD P (hmG own dst st.H) t (st.ev x)) := by
    first | rfl | simp only [opR]
  rw [h]; cases (lenD P (hmG own dst st.H) t (st.ev x)) <;> rfl
@[go_sem] theorem awpD_len {x : Operand} {t : TypeId} : awpD P own ops (⟨dst, .call ⟨.builtin .len, #[x], #[t]⟩, ty, pos, aft, none⟩ :: rest) K st = stepO (lenD P (hmG own dst st.H) t (st.ev x)) (awpD P own ops) rest K st dst := by
  show (match opR P own ⟨dst, .call ⟨.builtin .len, #[x], #[t]⟩, ty, pos, aft, none⟩ st with | some (d, H, nx) => awpD P own ops rest K ({ st with H := H, nx := nx }.put dst d) | none => False) = _
  have h : opR P own ⟨dst, .call ⟨.builtin .len, #[x], #[t]⟩, ty, pos, aft, none⟩ st = st.keep (lenD P (hmG own dst st.H) t (st.ev x)) := by
    first | rfl | simp only [opR]
  rw [h]; cases (lenD P (hmG own dst st.H) t (st.ev x)) <;> rfl
@[go_sem] theorem awpL_max {x y : Operand} {tys : Array TypeId} : awpL P own ops (⟨dst, .call ⟨.builtin .max, #[x, y], tys⟩, ty, pos, aft, none⟩ :: rest) K st = stepO (maxD (st.ev x) (st.ev y)) (awpL P own ops) rest K st dst := by
  show (match opR P own ⟨dst, .call ⟨.builtin .max, #[x, y], tys⟩, ty, pos, aft, none⟩ st with | some (d, H, nx) => awpL P own ops rest K ({ st with H := H, nx := nx }.put dst d) | none => False) = _
  have h : opR P own ⟨dst, .call ⟨.builtin .max, #[x, y], tys⟩, ty, pos, aft, none⟩ st = st.keep (maxD (st.ev x) (st.ev y)) := by
    first | rfl | simp only [opR]
  rw [h]; cases (maxD (st.ev x) (st.ev y)) <;> rfl
@[go_sem] theorem awpD_max {x y : Operand} {tys : Array TypeId} : awpD P own ops (⟨dst, .call ⟨.builtin .max, #[x, y], tys⟩, ty, pos, aft, none⟩ :: rest) K st = stepO (maxD (st.ev x) (st.ev y)) (awpD P own ops) rest K st dst := by
  show (match opR P own ⟨dst, .call ⟨.builtin .max, #[x, y], tys⟩, ty, pos, aft, none⟩ st with | some (d, H, nx) => awpD P own ops rest K ({ st with H := H, nx := nx }.put dst d) | none => False) = _
  have h : opR P own ⟨dst, .call ⟨.builtin .max, #[x, y], tys⟩, ty, pos, aft, none⟩ st = st.keep (maxD (st.ev x) (st.ev y)) := by
    first | rfl | simp only [opR]
  rw [h]; cases (maxD (st.ev x) (st.ev y)) <;> rfl
@[go_sem] theorem awpL_min {x y : Operand} {tys : Array TypeId} : awpL P own ops (⟨dst, .call ⟨.builtin .min, #[x, y], tys⟩, ty, pos, aft, none⟩ :: rest) K st = stepO (minD (st.ev x) (st.ev y)) (awpL P own ops) rest K st dst := by
  show (match opR P own ⟨dst, .call ⟨.builtin .min, #[x, y], tys⟩, ty, pos, aft, none⟩ st with | some (d, H, nx) => awpL P own ops rest K ({ st with H := H, nx := nx }.put dst d) | none => False) = _
  have h : opR P own ⟨dst, .call ⟨.builtin .min, #[x, y], tys⟩, ty, pos, aft, none⟩ st = st.keep (minD (st.ev x) (st.ev y)) := by
    first | rfl | simp only [opR]
  rw [h]; cases (minD (st.ev x) (st.ev y)) <;> rfl
@[go_sem] theorem awpD_min {x y : Operand} {tys : Array TypeId} : awpD P own ops (⟨dst, .call ⟨.builtin .min, #[x, y], tys⟩, ty, pos, aft, none⟩ :: rest) K st = stepO (minD (st.ev x) (st.ev y)) (awpD P own ops) rest K st dst := by
  show (match opR P own ⟨dst, .call ⟨.builtin .min, #[x, y], tys⟩, ty, pos, aft, none⟩ st with | some (d, H, nx) => awpD P own ops rest K ({ st with H := H, nx := nx }.put dst d) | none => False) = _
  have h : opR P own ⟨dst, .call ⟨.builtin .min, #[x, y], tys⟩, ty, pos, aft, none⟩ st = st.keep (minD (st.ev x) (st.ev y)) := by
    first | rfl | simp only [opR]
  rw [h]; cases (minD (st.ev x) (st.ev y)) <;> rfl
@[go_sem] theorem awpL_append {x y : Operand} {t : TypeId} : awpL P own ops (⟨dst, .call ⟨.builtin .append, #[x, y], #[t, t]⟩, ty, pos, aft, none⟩ :: rest) K st = step3 (appendG P own dst st t (st.ev x) (st.ev y)) (awpL P own ops) rest K st dst := by
  show (match opR P own ⟨dst, .call ⟨.builtin .append, #[x, y], #[t, t]⟩, ty, pos, aft, none⟩ st with | some (d, H, nx) => awpL P own ops rest K ({ st with H := H, nx := nx }.put dst d) | none => False) = _
  have h : opR P own ⟨dst, .call ⟨.builtin .append, #[x, y], #[t, t]⟩, ty, pos, aft, none⟩ st = appendG P own dst st t (st.ev x) (st.ev y) := by
    simp only [opR, if_true, appendG, St.keep]
  rw [h]; cases (appendG P own dst st t (st.ev x) (st.ev y)) <;> rfl
@[go_sem] theorem awpD_append {x y : Operand} {t : TypeId} : awpD P own ops (⟨dst, .call ⟨.builtin .append, #[x, y], #[t, t]⟩, ty, pos, aft, none⟩ :: rest) K st = stepK (okQ own dst st (st.ev x)) (step3 (appendG P own dst st t (st.ev x) (st.ev y)) (awpD P own ops) rest K st dst) := by
  show (match opR P own ⟨dst, .call ⟨.builtin .append, #[x, y], #[t, t]⟩, ty, pos, aft, none⟩ st with | some (d, H, nx) => stepK (okQ own dst st (st.ev x)) (awpD P own ops rest K ({ st with H := H, nx := nx }.put dst d)) | none => False) = _
  have h : opR P own ⟨dst, .call ⟨.builtin .append, #[x, y], #[t, t]⟩, ty, pos, aft, none⟩ st = appendG P own dst st t (st.ev x) (st.ev y) := by
    simp only [opR, if_true, appendG, St.keep]
  rw [h]; cases (appendG P own dst st t (st.ev x) (st.ev y)) <;> first | exact (stepK_not _).symm | rfl
/-- A call, and what follows. -/
def callW (P : Program) (f : D) (args : List D) (g : List Oper → (St → Prop) → St → Prop) (rest : List Oper) (K : St → Prop) (st : St) (dst : Option Nat) : Prop :=
  match f with | .fn n cap => AC P n (args ++ cap) st.H st.nx fun r H nx => g rest K ((st.withH H nx).put dst r) | _ => False
def callD (P : Program) (own : List Nat) (f : D) (args : List D) (g : List Oper → (St → Prop) → St → Prop) (rest : List Oper) (K : St → Prop) (st : St) (dst : Option Nat) : Prop :=
  match f with | .fn n cap => (isMark 5000000 own dst = false ∧ ∃ r, RC P n (args ++ cap) st.H st.nx r ∧ g rest K (st.put dst r)) ∨
      (isMark 5000000 own dst = true ∧ ∃ r, (∀ H nx, RC P n (args ++ cap) H nx r) ∧ g rest K (st.put dst r)) ∨
      (isMark 5000000 own dst = false ∧ isMark 4000000 own dst = true ∧ ∃ d H nx, AC P n (args ++ cap) st.H st.nx (fun r' H' nx' => r' = d ∧ H' = H ∧ nx' = nx) ∧ SameB st H nx ∧ g rest K ((st.withH H nx).put dst d)) | _ => False
@[go_sem] theorem awpL_call {f : Operand} {args : Array Operand} {tys : Array TypeId} : awpL P own ops (⟨dst, .call ⟨.value f, args, tys⟩, ty, pos, aft, none⟩ :: rest) K st = callW P (st.ev f) (args.toList.map st.ev) (awpL P own ops) rest K st dst := rfl
@[go_sem] theorem awpD_call {f : Operand} {args : Array Operand} {tys : Array TypeId} : awpD P own ops (⟨dst, .call ⟨.value f, args, tys⟩, ty, pos, aft, none⟩ :: rest) K st = callD P own (st.ev f) (args.toList.map st.ev) (awpD P own ops) rest K st dst := rfl
variable {n : FuncId} {cap args : List D} {g : List Oper → (St → Prop) → St → Prop}
/-- A call by its contract. -/
theorem callW_ac (h : AC P n (args ++ cap) st.H st.nx fun r H nx => g rest K ((st.withH H nx).put dst r)) : callW P (.fn n cap) args g rest K st dst := h
theorem callW_rc {r : D} (h : RC P n (args ++ cap) st.H st.nx r) (hk : g rest K (st.put dst r)) : callW P (.fn n cap) args g rest K st dst := callW_ac (RC.ac h hk)
theorem callW_pc {r : D} (h : PC P n (args ++ cap) r) (hk : g rest K (st.put dst r)) : callW P (.fn n cap) args g rest K st dst := callW_ac (RC.ac (h.rc st.H st.nx) hk)
theorem callD_rc {r : D} (h : RC P n (args ++ cap) st.H st.nx r) (h0 : isMark 5000000 own dst = false) (hk : g rest K (st.put dst r)) : callD P own (.fn n cap) args g rest K st dst := .inl ⟨h0, r, h, hk⟩
theorem callD_pc {r : D} (h : PC P n (args ++ cap) r) (hk : g rest K (st.put dst r)) : callD P own (.fn n cap) args g rest K st dst := by
  cases h0 : isMark 5000000 own dst with
  | false => exact .inl ⟨h0, r, h.rc st.H st.nx, hk⟩
  | true => exact .inr (.inl ⟨h0, r, fun H nx => h.rc H nx, hk⟩)
end
end Go.Proofs.Ytjibdljdkgedcaa.Abs
