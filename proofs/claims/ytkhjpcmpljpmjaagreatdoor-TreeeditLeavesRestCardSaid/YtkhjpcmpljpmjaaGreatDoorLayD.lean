import Derived.Test.YtkhjpcmpljpmjaaGreatDoorLayC
import Derived.ProofKit
import Derived.ChangeSlices
import Derived.Below
set_option linter.unusedSimpArgs false
set_option linter.unusedVariables false
/-
 Small facts that the walks use: integers that do not wrap, elements of lists of values, values that are only read. No condition.
-/
namespace Go.Proofs.YtkhjpcmpljpmjaaGreatDoor.Abs
open Go.RowKit

theorem wrapI {n : Int} (h : -9223372036854775808 ≤ n ∧ n ≤ 9223372036854775807) : IntKind.i64.wrap n = n := by rw [IntKind.wrap_i64]; omega
theorem idxD_map {α : Type} (f : α → D) (l : List α) (k : Nat) (h : k < l.length) : idxD (l.map f) (k : Int) = some (f l[k]) := by
 unfold idxD
 rw [if_pos ⟨by omega, by simpa using h⟩]
 simp [h]
theorem pureL_map {α : Type} {f : α → D} (h : ∀ x, pureD (f x) = true) : ∀ (l : List α), pureD.pureL (l.map f) = true
 | [] => rfl
 | x :: l => by simp only [List.map_cons, pureD.pureL, h x, pureL_map h l, Bool.and_self]
theorem sealD_pure {P : Program} {H : HM} {d : D} (k : Nat) (h : pureD d = true) : sealD P H (k + 1) d = some d := by unfold sealD; rw [if_pos h]
theorem optL_pure {P : Program} {H : HM} (k : Nat) : ∀ (ds : List D), pureD.pureL ds = true → optL (sealD P H (k + 1)) ds = some ds
 | [], _ => rfl
 | d :: ds, h => by
  simp only [pureD.pureL, Bool.and_eq_true] at h
  simp only [optL, sealD_pure k h.1, optL_pure k ds h.2]
theorem groupD_one : ∀ (cs : List D), groupD false 1 cs.length cs = cs
 | [] => rfl
 | c :: cs => by
  simp only [List.length_cons, groupD, Bool.false_eq_true, if_false, List.getElem?_cons_zero, Option.getD_some, List.drop_succ_cons, List.drop_zero]
  rw [groupD_one cs]
theorem sealD_row {P : Program} {H : HM} {id n e : Nat} {cs : List D} (k : Nat) (hH : H id = some (.row e n cs)) (ha : isAggT P e = false) (hs : sizeT P e = 1) (hn : cs.length = n) (hp : pureD.pureL cs = true) :
  sealD P H (k + 2) (.osl id n) = some (.rsl false 1 cs) := by
 unfold sealD
 simp only [pureD, Bool.false_eq_true, if_false, hH, ha, hs, and_self, or_true, if_true]
 rw [optL_pure k cs hp]
 simp only [Option.map_some]
 rw [← hn, groupD_one]

def encI (l : List Int) : D := .rsl false 1 (l.map fun n => .int .i64 n)
def encS (l : List ByteArray) : D := .rsl false 1 (l.map .str)
theorem pure_encI (l : List Int) : pureD (encI l) = true := by simp only [encI, pureD]; exact pureL_map (fun _ => rfl) l
theorem pure_encS (l : List ByteArray) : pureD (encS l) = true := by simp only [encS, pureD]; exact pureL_map (fun _ => rfl) l
end Go.Proofs.YtkhjpcmpljpmjaaGreatDoor.Abs
namespace Go.Proofs.YtkhjpcmpljpmjaaGreatDoor.Abs
theorem fin_pure {P : Program} {H : HM} {nx k : Nat} {d r : D} (hp : pureD d = true) (h : Le d r) : Fin P (k + 1) r d H nx := ⟨d, sealD_pure k hp, h⟩
theorem fin_bool {P : Program} {H : HM} {nx : Nat} {b c : Bool} (h : b = c) : Fin P 1 (.bool c) (.bool b) H nx := fin_pure rfl (by rw [h]; exact Le.refl _)
theorem fin_int {P : Program} {H : HM} {nx : Nat} {b c : Int} (h : b = c) : Fin P 1 (.int .i64 c) (.int .i64 b) H nx := fin_pure rfl (by rw [h]; exact Le.refl _)
end Go.Proofs.YtkhjpcmpljpmjaaGreatDoor.Abs
namespace Go.Proofs.YtkhjpcmpljpmjaaGreatDoor.Abs
open Go.RowKit
theorem sealD_box {P : Program} {H : HM} {id e : Nat} {c d : D} (k : Nat) (hH : H id = some (.box e [c])) (ha : isAggT P e = false) (hc : sealD P H k c = some d) : sealD P H (k + 1) (.ptr id 0) = some (.rptr d) := by
 unfold sealD
 simp only [pureD, Bool.false_eq_true, if_false, hH, ha, false_or, List.length_cons, List.length_nil, and_self, if_true, optL, hc, Option.map_some, List.getElem?_cons_zero, Option.getD_some]
theorem optL_cons {P : Program} {H : HM} {k : Nat} {d d' : D} {ds ds' : List D} (h : sealD P H k d = some d') (hs : optL (sealD P H k) ds = some ds') : optL (sealD P H k) (d :: ds) = some (d' :: ds') := by
 simp only [optL, h, hs]
theorem optL_nil {P : Program} {H : HM} {k : Nat} : optL (sealD P H k) [] = some [] := rfl
end Go.Proofs.YtkhjpcmpljpmjaaGreatDoor.Abs
namespace Go.Proofs.YtkhjpcmpljpmjaaGreatDoor.Abs
open Go.RowKit
theorem sealD_fn {P : Program} {H : HM} {f : FuncId} {cap cap' : List D} (k : Nat) (hp : pureD.pureL cap = false) (hc : optL (sealD P H k) cap = some cap') : sealD P H (k + 1) (.fn f cap) = some (.fn f cap') := by
 unfold sealD
 simp only [pureD, hp, Bool.false_eq_true, if_false, hc, Option.map_some]
theorem fin_of {P : Program} {H : HM} {nx k : Nat} {d r : D} (h : sealD P H k d = some r) : Fin P k r d H nx := ⟨r, h, Le.refl _⟩
end Go.Proofs.YtkhjpcmpljpmjaaGreatDoor.Abs
namespace Go.Proofs.YtkhjpcmpljpmjaaGreatDoor.Abs
open Go.RowKit
theorem groupD_agg {α : Type} {f : α → List D} {sz : Nat} (h : ∀ x, (f x).length = sz) : ∀ (l : List α), groupD true sz l.length (l.flatMap f) = l.map fun x => .agg (f x)
 | [] => rfl
 | x :: l => by
  simp only [List.length_cons, groupD, if_true, List.flatMap_cons, List.map_cons]
  rw [List.take_left' (h x), List.drop_left' (h x), groupD_agg h l]
theorem pureL_flatMap {α : Type} {f : α → List D} (h : ∀ x, pureD.pureL (f x) = true) : ∀ (l : List α), pureD.pureL (l.flatMap f) = true
 | [] => rfl
 | x :: l => by
  have app : ∀ (a b : List D), pureD.pureL a = true → pureD.pureL b = true → pureD.pureL (a ++ b) = true := by
   intro a b
   induction a with
   | nil => intro _ h; exact h
   | cons d ds ih =>
    intro h1 h2
    simp only [pureD.pureL, Bool.and_eq_true, List.cons_append] at h1 ⊢
    exact ⟨h1.1, ih h1.2 h2⟩
  exact app _ _ (h x) (pureL_flatMap h l)
theorem sealD_rowAgg {α : Type} {P : Program} {H : HM} {id e sz : Nat} {f : α → List D} {l : List α} (k : Nat) (hH : H id = some (.row e l.length (l.flatMap f))) (ha : isAggT P e = true) (hs : sizeT P e = sz) (h : ∀ x, (f x).length = sz) (hp : ∀ x, pureD.pureL (f x) = true) :
  sealD P H (k + 2) (.osl id l.length) = some (.rsl false sz (l.map fun x => .agg (f x))) := by
 unfold sealD
 simp only [pureD, Bool.false_eq_true, if_false, hH, ha, true_or, and_self, if_true, hs]
 rw [optL_pure k _ (pureL_flatMap hp l)]
 simp only [Option.map_some, groupD_agg h]
end Go.Proofs.YtkhjpcmpljpmjaaGreatDoor.Abs
namespace Go.Proofs.YtkhjpcmpljpmjaaGreatDoor.Abs
theorem updH_ne {H : HM} {i j : Nat} {o : Option HObj} (h : ¬ j = i) : updH H i o j = H j := if_neg h
theorem updH_eq {H : HM} {i : Nat} {o : Option HObj} : updH H i o i = o := if_pos rfl
end Go.Proofs.YtkhjpcmpljpmjaaGreatDoor.Abs
namespace Go.Proofs.YtkhjpcmpljpmjaaGreatDoor.Abs
open Go.RowKit
theorem PC.le {P : Program} {f : FuncId} {ds es : List D} {r : D} (h : PC P f es r) (hp : pureD.pureL ds = true) (hl : LeL ds es) : PC P f ds r :=
 ⟨hp, h.2.1, h.2.2.1, fun s w vs h1 h2 h3 h4 => h.2.2.2 s w vs h1 h2 h3 (relAll_le hl h4)⟩
end Go.Proofs.YtkhjpcmpljpmjaaGreatDoor.Abs
/-
 From the reading of a law's arguments to abstract values: a law's contract gives its call. No condition.
-/
namespace Go.Proofs.YtkhjpcmpljpmjaaGreatDoor.Abs
open Go.RowKit Go.ChangeShapes

def readS (W : World) : RS := { m := W.cell?, H := noH, nx := 0, κ := fun _ => .pointer none }
def GlobOK (W : World) : Prop := ∀ g, rel (readS W) (globD g) (.pointer (some ⟨g, 0, none⟩))

theorem readS_RH (P : Program) (W : World) (hg : GlobOK W) : RH P (readS W) W :=
 ⟨fun a v h => ⟨h, by rintro ⟨id, hid, _⟩; exact absurd hid (Nat.not_lt_zero _)⟩, fun id o ho => (by cases ho), fun i j hi => (hi rfl).elim, hg⟩
theorem law_calls {P : Program} {f : FuncId} {ds : List D} {v : Value} {d : D} (h : PC P f ds d) (hd : ∀ s u, rel s d u → u = v) {W : World} (hg : GlobOK W) {vs : List Value} (hr : relAll (readS W) ds vs) :
  Calls P f vs.toArray W fun e W' => e = .returned v ∧ Below W.heap.size W W' := by
 refine (h.2.2.2 (readS W) W vs rfl rfl (readS_RH P W hg) hr).mono fun e W' ⟨u, r', s', he, hrr, hstep, _, hrel⟩ => ?_
 subst hrr
 rw [hd _ _ hrel] at he
 exact ⟨he, hstep.os, hstep.tape, hstep.output, hstep.size, fun k hk => hstep.keep k hk (by rintro ⟨id, hid, _⟩; exact absurd hid (Nat.not_lt_zero _))⟩
end Go.Proofs.YtkhjpcmpljpmjaaGreatDoor.Abs
namespace Go.Proofs.YtkhjpcmpljpmjaaGreatDoor.Abs
open Go.RowKit Go.ChangeShapes
end Go.Proofs.YtkhjpcmpljpmjaaGreatDoor.Abs
/-
 Rules for walks that follow one path at a time. No condition.
-/
namespace Go.Proofs.YtkhjpcmpljpmjaaGreatDoor.Abs
open Go.RowKit
variable {P : Program} {own : List Nat} {Q : Exit → St → Prop} {st : St}

theorem zqd {c : Operand} {x y b : Code} (t : Bool) (ht : st.ev c = .bool t) (h1 : t = true → awp P own (.seq x b) Q st) (h2 : t = false → awp P own (.seq y b) Q st) : awp P own (.seq (.cond c x y) b) Q st :=
 ⟨t, ht, h1, h2⟩
theorem zqb {b : Code} (h : awp P own b Q st) : awp P own (.seq .skip b) Q st := ⟨st, SealTo.refl st, h⟩
theorem zqg {b : Code} (h : Q .ret st) : awp P own (.seq .ret b) Q st := h
theorem zqc {b : Code} {id : Nat} (h : Q (.exit id) st) : awp P own (.seq (.exit id) b) Q st := h
theorem zqa {id : Nat} {c b : Code} (h : awp P own c (blkK id (seqK (fun st => ∃ st', SealTo P st st' ∧ awp P own b Q st') Q)) st) : awp P own (.seq (.block id c) b) Q st := h
theorem zqr {id : Nat} {l : List Oper} (h : ∀ K : St → Prop, (∀ st, Q .normal st → K st) → awpL P own (l.map (·.dst)) l K st) : awp P own (.region id l.toArray false) Q st :=
 awp_reg (h _ fun _ h => h)
theorem zqq {id : Nat} {l : List Oper} (h0 : drawOK own l.toArray = true) (h : ∀ K : St → Prop, (∀ st, Q .normal st → K st) → awpD P own (l.map (·.dst)) l K st) : awp P own (.region id l.toArray true) Q st :=
 awp_draw h0 (h _ fun _ h => h)
theorem zqzc {c : Code} (I : Nat → St → Prop) (h0 : ∃ n, I n st) (h : ∀ n st', I n st' → awp P own c (loopK I n Q) st') : awp P own (.loop c) Q st := ⟨I, h0, h⟩
def isRN : Exit → Bool
 | .normal | .ret => true
 | _ => false
theorem zqu {e : Exit} {rs : List ResultVar} {K : D → HM → Nat → Prop} {d : D} (h : resD P st rs = some d) (he : isRN e = true) (hF : K d st.H st.nx) : retQ P rs K e st := by
 cases e <;> first | exact ⟨d, h, hF⟩ | cases he
theorem zqv {Q' : Exit → St → Prop} {b : Code} (h : awp P own b Q st) : seqK (fun st => ∃ st', SealTo P st st' ∧ awp P own b Q st') Q' .normal st := ⟨st, SealTo.refl st, h⟩
theorem zqw {k : St → Prop} {id : Nat} (h : Q (.exit id) st) : seqK k Q (.exit id) st := h
theorem zqx {k : St → Prop} (h : Q .ret st) : seqK k Q .ret st := h
theorem zqy {id : Nat} (h : Q .normal st) : blkK id Q .normal st := h
theorem zqz {id : Nat} (h : Q .normal st) : blkK id Q (.exit id) st := by
 simp only [blkK, if_true]; exact h
theorem zqza {id id' : Nat} (hne : (id' == id) = false) (h : Q (.exit id') st) : blkK id Q (.exit id') st := by
 have : ¬ id' = id := by simpa using hne
 simp only [blkK]; rw [if_neg this]; exact h
theorem zqzb {id : Nat} (h : Q .ret st) : blkK id Q .ret st := h
theorem zqp {I : Nat → St → Prop} {n id : Nat} (h : Q (.exit id) st) : loopK I n Q (.exit id) st := h
theorem zqo {I : Nat → St → Prop} {n : Nat} (h : Q .ret st) : loopK I n Q .ret st := h
section
variable {f : List Oper → (St → Prop) → St → Prop} {rest : List Oper} {K : St → Prop} {dst : Option Nat}
theorem zqf {b : Bool} {op : Op} {ty : TypeId} {pos : String} {aft : Array Edge} {g : Option (Nat × Bool)} (h1 : b = true → f (⟨dst, op, ty, pos, aft, g⟩ :: rest) K st) (h2 : b = false → f rest K (st.put dst (.tup []))) :
  stepG (some b) f ⟨dst, op, ty, pos, aft, g⟩ rest K st := by
 cases b with
 | true => exact h1 rfl
 | false => exact h2 rfl
end
attribute [go_sem] encI encS
theorem idxD_mapI {α : Type} {f : α → D} {l : List α} {i : Int} (h0 : 0 ≤ i) (h : i.toNat < l.length) : idxD (l.map f) i = some (f l[i.toNat]) := by
 unfold idxD
 rw [if_pos ⟨h0, by simp; omega⟩]
 simp [h]
theorem ite_some {α : Type} {c : Prop} [Decidable c] {x : α} (h : c) : (if c then some x else none) = some x := if_pos h
theorem take_map' {α β : Type} (f : α → β) (l : List α) (i : Nat) : (l.map f).take i = (l.take i).map f := (List.map_take).symm
theorem drop_map' {α β : Type} (f : α → β) (l : List α) (i : Nat) : (l.map f).drop i = (l.drop i).map f := (List.map_drop).symm
theorem maxLen_val : maxLen = 9223372036854775807 := rfl
attribute [go_sem] take_map' drop_map' maxLen_val
theorem nbeq {a b : Nat} (h : ¬ a = b) : (a == b) = false := by simpa using h
theorem nb1 {a : Nat} {st : St} (h : ¬ a = st.nx) : (a == st.nx) = false := nbeq h
theorem nb2 {a : Nat} {st : St} (h : ¬ st.nx = a) : (st.nx == a) = false := nbeq h
theorem nb3 {a k : Nat} {st : St} (h : ¬ a = st.nx + k) : (a == st.nx + k) = false := nbeq h
theorem nb4 {a k : Nat} {st : St} (h : ¬ st.nx + k = a) : (st.nx + k == a) = false := nbeq h
theorem idxD_mapN {α : Type} {f : α → D} {l : List α} {k : Nat} (h : k < l.length) : idxD (l.map f) (k : Int) = some (f l[k]) := idxD_map f l k h
theorem AC.split {f : FuncId} {pre post : List D} {sz : Nat} {els : List D} {H : HM} {nx : Nat} {K : D → HM → Nat → Prop} (h0 : els = [] → AC P f (pre ++ .nil :: post) H nx K) (h1 : AC P f (pre ++ .rsl true sz els :: post) H nx K) :
  AC P f (pre ++ .rsl false sz els :: post) H nx K := by
 refine ⟨h1.1, fun s w vs hH hnx hRH hr => ?_⟩
 have key : ∀ (pre : List D) (vs : List Value), relAll s (pre ++ .rsl false sz els :: post) vs → (els = [] ∧ relAll s (pre ++ .nil :: post) vs) ∨ relAll s (pre ++ .rsl true sz els :: post) vs := by
  intro pre
  induction pre with
  | nil =>
   intro vs hr
   simp only [List.nil_append, relAll] at hr ⊢
   obtain ⟨v, r, h1, h2, h3⟩ := hr
   simp only [rel] at h2
   rcases h2 with ⟨_, h4, h5⟩ | h2
   ·exact .inl ⟨h4, v, r, h1, by simpa only [rel] using h5, h3⟩
   ·exact .inr ⟨v, r, h1, by simp only [rel]; exact .inr h2, h3⟩
  | cons d ds ih =>
   intro vs hr
   simp only [List.cons_append, relAll] at hr ⊢
   obtain ⟨v, r, h1, h2, h3⟩ := hr
   rcases ih r h3 with ⟨h4, h5⟩ | h4
   ·exact .inl ⟨h4, v, r, h1, h2, h5⟩
   ·exact .inr ⟨v, r, h1, h2, h4⟩
 rcases key pre vs hr with ⟨h2, h3⟩ | h2
 ·exact (h0 h2).2 s w vs hH hnx hRH h3
 ·exact h1.2 s w vs hH hnx hRH h2
theorem sealD_tup {P : Program} {H : HM} {ds ds' : List D} (k : Nat) (hp : pureD.pureL ds = false) (hc : optL (sealD P H k) ds = some ds') : sealD P H (k + 1) (.tup ds) = some (.tup ds') := by
 unfold sealD
 simp only [pureD, hp, Bool.false_eq_true, if_false, hc, Option.map_some]
theorem sealD_agg {P : Program} {H : HM} {ds ds' : List D} (k : Nat) (hp : pureD.pureL ds = false) (hc : optL (sealD P H k) ds = some ds') : sealD P H (k + 1) (.agg ds) = some (.agg ds') := by
 unfold sealD
 simp only [pureD, hp, Bool.false_eq_true, if_false, hc, Option.map_some]
theorem groupD_one' {cs : List D} {n : Nat} (h : n = cs.length) : groupD false 1 n cs = cs := by subst h; exact groupD_one cs
theorem cellsAll_one {α : Type} {f : α → D} (h : ∀ x, cellsD (f x) = some [f x]) : ∀ (l : List α), cellsAll 1 (l.map f) = some (l.map f)
 | [] => rfl
 | x :: l => by simp [cellsAll, h, cellsAll_one h l]
theorem cells_str (l : List ByteArray) : cellsAll 1 (l.map D.str) = some (l.map D.str) := cellsAll_one (fun _ => rfl) l
theorem cells_int {k : IntKind} (l : List Int) : cellsAll 1 (l.map (D.int k)) = some (l.map (D.int k)) := cellsAll_one (fun _ => rfl) l
theorem pure_str (l : List ByteArray) : pureD.pureL (l.map D.str) = true := pureL_map (fun _ => rfl) l
theorem pure_int {k : IntKind} (l : List Int) : pureD.pureL (l.map (D.int k)) = true := pureL_map (fun _ => rfl) l
theorem groupD_map {α : Type} (f : α → D) (l : List α) : groupD false 1 l.length (l.map f) = l.map f := groupD_one' (by simp)
attribute [go_sem] List.nil_append List.cons_append Bool.false_or Bool.or_true Bool.true_or Bool.or_false groupD_map
theorem pureL_append (a b : List D) : pureD.pureL (a ++ b) = (pureD.pureL a && pureD.pureL b) := by
 induction a with
 | nil => rfl
 | cons d ds ih => simp only [List.cons_append, pureD.pureL, ih, Bool.and_assoc]
attribute [go_sem] pureL_append
theorem groupD_snoc {α : Type} (f : α → D) (l : List α) (x : D) : groupD false 1 (l.length + 1) (l.map f ++ [x]) = l.map f ++ [x] := groupD_one' (by simp)
attribute [go_sem high] groupD_snoc
theorem cells_nat {k : IntKind} (l : List Nat) : cellsAll 1 (l.map fun n => D.int k (n : Nat)) = some (l.map fun n => D.int k (n : Nat)) := cellsAll_one (fun _ => rfl) l
theorem pure_nat {k : IntKind} (l : List Nat) : pureD.pureL (l.map fun n => D.int k (n : Nat)) = true := pureL_map (fun _ => rfl) l
attribute [go_sem] cells_str cells_int pure_str pure_int cells_nat pure_nat

def seal0 (P : Program) (id : Nat) (e : TypeId) (k : Nat) (cs : List D) : D → D
 | .osl j n => cond (j == id && n == k) (.rsl false (sizeT P e) (groupD (isAggT P e) (sizeT P e) k cs)) (.osl j n)
 | d => d
def seal1 (P : Program) (id : Nat) (e : TypeId) (k : Nat) (cs : List D) : D → D
 | .agg ds => .agg (ds.map (seal0 P id e k cs))
 | d => seal0 P id e k cs d
def sealO (P : Program) (id : Nat) (e : TypeId) (k : Nat) (cs : List D) : HObj → HObj
 | .box t ds => .box t (ds.map (seal0 P id e k cs))
 | .row t n ds => .row t n (ds.map (seal0 P id e k cs))
 | o => o
def St.given (P : Program) (st : St) (id : Nat) (e : TypeId) (k : Nat) (cs : List D) : St :=
 {t := fun i => seal1 P id e k cs (st.t i), H := fun j => cond (j == id) none ((st.H j).map (sealO P id e k cs)), nx := st.nx }
@[go_sem] theorem t_seal (st : St) (id e k : Nat) (cs : List D) (i : Nat) : (st.given P id e k cs).t i = seal1 P id e k cs (st.t i) := rfl
@[go_sem] theorem H_seal (st : St) (id e k : Nat) (cs : List D) (j : Nat) : (st.given P id e k cs).H j = cond (j == id) none ((st.H j).map (sealO P id e k cs)) := rfl
@[go_sem] theorem nx_seal (st : St) (id e k : Nat) (cs : List D) : (st.given P id e k cs).nx = st.nx := rfl
attribute [go_sem] seal0 seal1 sealO
attribute [go_sem] Bool.not_true Bool.not_false decide_true decide_false List.getElem?_toArray List.map_map ne_eq not_true_eq_false not_false_eq_true List.length_map Nat.zero_le Option.some.injEq List.length_cons List.length_nil beq_self_eq_true Bool.true_and Bool.and_true true_or or_true List.drop_zero List.set_cons_zero List.set_cons_succ List.take_succ_cons List.take_zero List.drop_succ_cons D.int.injEq Prod.mk.injEq Int.toNat_natCast Nat.mul_one Nat.zero_add Nat.add_zero Int.natCast_nonneg List.getElem?_map List.length_set List.length_append List.length_replicate List.length_take List.length_drop List.take_length Bool.false_and Bool.and_false
attribute [go_sem] idxD_mapN idxD_mapI wrapI nb1 nb2 nb3 nb4 ite_some resD allR valR
end Go.Proofs.YtkhjpcmpljpmjaaGreatDoor.Abs
/-
 Contracts of functions that give back objects of their own: new rows, boxes and maps, that the caller then owns. No condition.
-/
namespace Go.Proofs.YtkhjpcmpljpmjaaGreatDoor.Abs
open Go.RowKit
variable {P : Program}

def objPure : HObj → Bool
 | .box _ cs => pureD.pureL cs
 | .row _ _ cs => pureD.pureL cs
 | .map es => pureD.pureL (es.map (·.1)) && pureD.pureL (es.map (·.2))
 | .raw _ => true
def renD (g : Nat → Nat) : D → D
 | .osl j n => .osl (g j) n
 | .ptr j off => .ptr (g j) off
 | .mp j => .mp (g j)
 | .agg ds => .agg (renL ds)
 | .tup ds => .tup (renL ds)
 | d => d
where renL : List D → List D
 | [] => []
 | d :: ds => renD g d :: renL ds
def okD (k : Nat) : D → Bool
 | .osl j _ => decide (j < k)
 | .ptr j _ => decide (j < k)
 | .mp j => decide (j < k)
 | .agg ds => okL ds
 | .tup ds => okL ds
 | d => pureD d
where okL : List D → Bool
 | [] => true
 | d :: ds => okD k d && okL ds
def addL (H : HM) (nx : Nat) : List HObj → HM
 | [] => H
 | o :: os => addL (updH H nx (some o)) (nx + 1) os
theorem addL_eq : ∀ (os : List HObj) (H : HM) (nx i : Nat), addL H nx os i = if nx ≤ i ∧ i < nx + os.length then os[i - nx]? else H i
 | [], H, nx, i => by
  simp only [addL, List.length_nil, Nat.add_zero]
  rw [if_neg (by omega)]
 | o :: os, H, nx, i => by
  simp only [addL, addL_eq os, List.length_cons, updH]
  by_cases h : nx + 1 ≤ i ∧ i < nx + 1 + os.length
  ·rw [if_pos h, if_pos (by omega)]
   have : i - nx = (i - (nx + 1)) + 1 := by omega
   rw [this, List.getElem?_cons_succ]
  ·rw [if_neg h]
   by_cases h2 : i = nx
   ·subst h2
    rw [if_pos rfl, if_pos (by omega), Nat.sub_self]; rfl
   ·rw [if_neg h2, if_neg (by omega)]

def OC (P : Program) (f : FuncId) (ds : List D) (objs : List HObj) (r : D) : Prop :=
 pureD.pureL ds = true ∧ okD objs.length r = true ∧ (∀ o ∈ objs, objPure o = true) ∧
  ∀ H nx, AC P f ds H nx fun r' H' nx' => r' = renD (fun j => nx + j) r ∧ H' = addL H nx objs ∧ nx' = nx + objs.length

noncomputable def adoptS (s s3 : RS) (w w' : World) (k : Nat) (σ : Nat → Nat) : RS :=
 {m := fun a => if a.block < w.heap.size then s.m a else @ite _ (∃ j, j < k ∧ blockOf (s3.κ (σ j)) = some a.block) (Classical.propDecidable _) none (w'.cell? a)
  κ := fun i => if s.nx ≤ i ∧ i < s.nx + k then s3.κ (σ (i - s.nx)) else s.κ i
  H := fun i => if s.nx ≤ i ∧ i < s.nx + k then s3.H (σ (i - s.nx)) else s.H i
  nx := s.nx + k }

mutual
theorem rel_ren {s s' : RS} {k : Nat} {σ τ : Nat → Nat} (hm : ∀ a v, s.m a = some v → s'.m a = some v)
  (hnx : ∀ j, j < k → τ j < s'.nx) (hH : ∀ j, j < k → s'.H (τ j) = s.H (σ j) ∧ s'.κ (τ j) = s.κ (σ j)) : ∀ (d : D) (v : Value), okD k d = true → rel s (renD σ d) v → rel s' (renD τ d) v
 | .osl j n, v, hk, hr => by
  simp only [okD, decide_eq_true_eq] at hk
  simp only [renD, rel] at hr ⊢
  obtain ⟨_, h2, h3⟩ := hr
  obtain ⟨e1, e2⟩ := hH j hk
  exact ⟨hnx j hk, h2, by rw [e1, e2]; exact h3⟩
 | .ptr j off, v, hk, hr => by
  simp only [okD, decide_eq_true_eq] at hk
  simp only [renD, rel] at hr ⊢
  obtain ⟨_, h2, h3⟩ := hr
  obtain ⟨e1, e2⟩ := hH j hk
  exact ⟨hnx j hk, h2, by rw [e1, e2]; exact h3⟩
 | .mp j, v, hk, hr => by
  simp only [okD, decide_eq_true_eq] at hk
  simp only [renD, rel] at hr ⊢
  obtain ⟨_, h2, h3⟩ := hr
  obtain ⟨e1, e2⟩ := hH j hk
  exact ⟨hnx j hk, h2, by rw [e1, e2]; exact h3⟩
 | .agg ds, v, hk, hr => by
  simp only [okD] at hk
  simp only [renD, rel] at hr ⊢
  obtain ⟨vs, h1, h2, h3⟩ := hr
  exact ⟨vs, h1, relAll_ren hm hnx hH ds vs hk h2, h3⟩
 | .tup ds, v, hk, hr => by
  simp only [okD] at hk
  simp only [renD, rel] at hr ⊢
  obtain ⟨vs, h1, h2⟩ := hr
  exact ⟨vs, h1, relAll_ren hm hnx hH ds vs hk h2⟩
 | .any, v, hk, hr => by simp only [renD] at hr ⊢; exact rel_pure hm _ _ rfl hr
 | .int _ _, v, hk, hr => by simp only [renD] at hr ⊢; exact rel_pure hm _ _ rfl hr
 | .bool _, v, hk, hr => by simp only [renD] at hr ⊢; exact rel_pure hm _ _ rfl hr
 | .str _, v, hk, hr => by simp only [renD] at hr ⊢; exact rel_pure hm _ _ rfl hr
 | .nil, v, hk, hr => by simp only [renD] at hr ⊢; exact rel_pure hm _ _ rfl hr
 | .nptr, v, hk, hr => by simp only [renD] at hr ⊢; exact rel_pure hm _ _ rfl hr
 | .nfun, v, hk, hr => by simp only [renD] at hr ⊢; exact rel_pure hm _ _ rfl hr
 | .nmp, v, hk, hr => by simp only [renD] at hr ⊢; exact rel_pure hm _ _ rfl hr
 | .e0, v, hk, hr => by simp only [renD] at hr ⊢; exact rel_pure hm _ _ rfl hr
 | .rsl nn sz els, v, hk, hr => by simp only [okD] at hk; simp only [renD] at hr ⊢; exact rel_pure hm _ _ hk hr
 | .rptr d, v, hk, hr => by simp only [okD] at hk; simp only [renD] at hr ⊢; exact rel_pure hm _ _ hk hr
 | .fn f cap, v, hk, hr => by simp only [okD] at hk; simp only [renD] at hr ⊢; exact rel_pure hm _ _ hk hr
 | .eptr .., v, hk, hr => by simp only [okD, pureD] at hk; cases hk
 | .it _, v, hk, hr => by simp only [okD, pureD] at hk; cases hk
theorem relAll_ren {s s' : RS} {k : Nat} {σ τ : Nat → Nat} (hm : ∀ a v, s.m a = some v → s'.m a = some v)
  (hnx : ∀ j, j < k → τ j < s'.nx) (hH : ∀ j, j < k → s'.H (τ j) = s.H (σ j) ∧ s'.κ (τ j) = s.κ (σ j)) : ∀ (ds : List D) (vs : List Value), okD.okL k ds = true → relAll s (renD.renL σ ds) vs → relAll s' (renD.renL τ ds) vs
 | [], vs, _, hr => by simpa [renD.renL, relAll] using hr
 | d :: ds, vs, hk, hr => by
  simp only [okD.okL, Bool.and_eq_true] at hk
  simp only [renD.renL, relAll] at hr ⊢
  obtain ⟨v, r, h1, h2, h3⟩ := hr
  exact ⟨v, r, h1, rel_ren hm hnx hH d v hk.1 h2, relAll_ren hm hnx hH ds r hk.2 h3⟩
end

theorem objOK.pure {s s' : RS} {w : World} {v : Value} {o : HObj} (hm : ∀ a v, s.m a = some v → s'.m a = some v) (hp : objPure o = true) (h : objOK P s w v o) : objOK P s' w v o := by
 cases o with
 | box e cs =>
  obtain ⟨b, vs, h1, h2, h3, h4⟩ := h
  exact ⟨b, vs, h1, h2, relAll_pure hm _ _ hp h3, h4⟩
 | row e n cs =>
  obtain ⟨vs, h1, h2, h3⟩ := h
  exact ⟨vs, h1, relAll_pure hm _ _ hp h2, h3⟩
 | map es =>
  simp only [objPure, Bool.and_eq_true] at hp
  obtain ⟨r, ens, clock, h1, h2, h3, h4⟩ := h
  exact ⟨r, ens, clock, h1, h2, relAll_pure hm _ _ hp.1 h3, relAll_pure hm _ _ hp.2 h4⟩
 | raw q => exact h

theorem OC_intro {f : FuncId} {ds : List D} {objs : List HObj} {r : D} (hds : pureD.pureL ds = true) (hr : okD objs.length r = true) (ho : ∀ o ∈ objs, objPure o = true)
  (h : AC P f ds noH 0 fun d H' _ => ∃ σ : Nat → Nat, (∀ i j, i < objs.length → j < objs.length → σ i = σ j → i = j) ∧ d = renD σ r ∧ ∀ j, j < objs.length → H' (σ j) = objs[j]?) : OC P f ds objs r := by
 refine ⟨hds, hr, ho, fun H nx => ⟨h.1, fun s w vs hH hnx hRH hrel => ?_⟩⟩
 subst hH; subst hnx
 let s2 : RS := { s with H := noH, nx := 0 }
 have hno : ∀ k, ¬ owned s2 k := by rintro k ⟨id, hid, _⟩; exact absurd hid (Nat.not_lt_zero _)
 have hRH2 : RH P s2 w := ⟨fun a v hmm => ⟨(hRH.mem a v hmm).1, hno _⟩, fun id o ho => (by cases ho), fun i j hi => (hi rfl).elim, fun g => rel_pure (s := s) (s' := s2) (fun a v hm => hm) _ _ (pure_globD g) (hRH.glob g)⟩
 have hr2 : relAll s2 ds vs := relAll_pure (s := s) (s' := s2) (fun a v hm => hm) ds vs hds hrel
 refine (h.2 s2 w vs rfl rfl hRH2 hr2).mono fun e w' ⟨v, d, s3, he, ⟨σ, hinj, hd, hobj⟩, hstep, hRH3, hres⟩ => ?_
 subst hd
 have hold : ∀ k, k < w.heap.size → w'.heap[k]? = w.heap[k]? := fun k hk => hstep.keep k hk (hno k)
 have hnew3 : ∀ k, owned s3 k → w.heap.size ≤ k := fun k hk => (hstep.own k hk).elim (fun h => (hno k h).elim) id
 have hlive : ∀ j, j < objs.length → s3.H (σ j) ≠ none := fun j hj => by rw [hobj j hj, List.getElem?_eq_getElem hj]; simp
 have hown3 : ∀ j b, j < objs.length → blockOf (s3.κ (σ j)) = some b → owned s3 b := fun j b hj hb => ⟨σ j, hRH3.fresh (hlive j hj), hlive j hj, hb⟩
 let s' := adoptS s s3 w w' objs.length σ
 have hm3 : ∀ a u, s3.m a = some u → s'.m a = some u := by
  intro a u hu
  show (adoptS s s3 w w' objs.length σ).m a = some u
  simp only [adoptS]
  rcases hstep.new a u hu with h1 | h1 | h1
  ·have hlt := hRH.mem_lt (a := a) (v := u) h1
   rw [if_pos hlt]; exact h1
  ·rw [if_neg (by omega), if_neg]
   ·exact (hRH3.mem a u hu).1
   ·rintro ⟨j, hj, hb⟩
    exact (hRH3.mem a u hu).2 (hown3 j _ hj hb)
  ·exact (hno _ h1).elim
 have hm0 : ∀ a u, s.m a = some u → s'.m a = some u := by
  intro a u hu
  show (adoptS s s3 w w' objs.length σ).m a = some u
  simp only [adoptS]
  rw [if_pos (hRH.mem_lt hu)]; exact hu
 have hHnew : ∀ j, j < objs.length → s'.H (s.nx + j) = s3.H (σ j) ∧ s'.κ (s.nx + j) = s3.κ (σ j) := by
  intro j hj
  show (adoptS s s3 w w' objs.length σ).H (s.nx + j) = _ ∧ (adoptS s s3 w w' objs.length σ).κ (s.nx + j) = _
  simp only [adoptS]
  rw [if_pos (by omega), if_pos (by omega), Nat.add_sub_cancel_left]
  exact ⟨rfl, rfl⟩
 have hHold : ∀ i, ¬ (s.nx ≤ i ∧ i < s.nx + objs.length) → s'.H i = s.H i ∧ s'.κ i = s.κ i := by
  intro i hi
  show (adoptS s s3 w w' objs.length σ).H i = _ ∧ (adoptS s s3 w w' objs.length σ).κ i = _
  simp only [adoptS]
  rw [if_neg hi, if_neg hi]
  exact ⟨rfl, rfl⟩
 have hHlow : ∀ i, i < s.nx → s'.H i = s.H i ∧ s'.κ i = s.κ i := fun i hi => hHold i (by omega)
 have hlate : Later s s' := ⟨by show s.nx ≤ s.nx + _; omega, hm0, fun id hid => by
  obtain ⟨e1, e2⟩ := hHlow id hid
  rw [e1, e2]; exact objLe.refl _ _⟩
 have hown : ∀ k, owned s' k → owned s k ∨ (w.heap.size ≤ k ∧ ∃ j, j < objs.length ∧ blockOf (s3.κ (σ j)) = some k) := by
  rintro k ⟨id, hid, hH, hb⟩
  by_cases hi : s.nx ≤ id ∧ id < s.nx + objs.length
  ·obtain ⟨j, rfl⟩ : ∃ j, id = s.nx + j := ⟨id - s.nx, by omega⟩
   have hj : j < objs.length := by omega
   rw [(hHnew j hj).2] at hb
   exact .inr ⟨hnew3 k (hown3 j k hj hb), j, hj, hb⟩
  ·obtain ⟨e1, e2⟩ := hHold id hi
   rw [e1] at hH; rw [e2] at hb
   exact .inl ⟨id, hRH.fresh hH, hH, hb⟩
 have hfun : s'.H = addL s.H s.nx objs := by
  funext i
  rw [addL_eq]
  by_cases hi : s.nx ≤ i ∧ i < s.nx + objs.length
  ·obtain ⟨j, rfl⟩ : ∃ j, i = s.nx + j := ⟨i - s.nx, by omega⟩
   have hj : j < objs.length := by omega
   rw [if_pos hi, (hHnew j hj).1, hobj j hj, Nat.add_sub_cancel_left]
  ·rw [if_neg hi, (hHold i hi).1]
 refine ⟨v, renD (fun j => s.nx + j) r, s', he, ⟨rfl, hfun, rfl⟩, ?_, ?_, rel_ren hm3 (fun j hj => by show s.nx + j < s.nx + _; omega) hHnew r v hr hres⟩
 ·refine ⟨hstep.os, hstep.tape, hstep.output, hstep.size, hlate.nx, hm0, fun a u hu => ?_, hlate.objs, fun k hk _ => hold k hk, fun k hk => ?_⟩
  ·by_cases hlt : a.block < w.heap.size
   ·refine .inl ?_
    have hu' : (adoptS s s3 w w' objs.length σ).m a = some u := hu
    simp only [adoptS] at hu'
    rw [if_pos hlt] at hu'; exact hu'
   ·exact .inr (.inl (by omega))
  ·rcases hown k hk with h1 | ⟨h1, _⟩
   ·exact .inl h1
   ·exact .inr h1
 ·refine ⟨fun a u hu => ?_, fun id o hido => ?_, fun i j hi hj hij hbi => ?_, fun g => rel.later hlate _ _ (hRH.glob g)⟩
  ·have hu' : (adoptS s s3 w w' objs.length σ).m a = some u := hu
   simp only [adoptS] at hu'
   split at hu'
   ·rename_i hlt
    obtain ⟨h1, h2⟩ := hRH.mem a u hu'
    refine ⟨by rw [cell_of_heap (hold _ hlt)]; exact h1, fun h3 => ?_⟩
    rcases hown _ h3 with h4 | ⟨h4, _⟩
    ·exact h2 h4
    ·omega
   ·rename_i hlt
    split at hu'
    ·cases hu'
    ·rename_i hex
     refine ⟨hu', fun h3 => ?_⟩
     rcases hown _ h3 with h4 | ⟨_, h4⟩
     ·exact hlt (hRH.owned_lt h4)
     ·exact hex h4
  ·by_cases hi : s.nx ≤ id ∧ id < s.nx + objs.length
   ·obtain ⟨j, rfl⟩ : ∃ j, id = s.nx + j := ⟨id - s.nx, by omega⟩
    have hj : j < objs.length := by omega
    obtain ⟨e1, e2⟩ := hHnew j hj
    rw [e1, hobj j hj, List.getElem?_eq_getElem hj] at hido
    cases hido
    refine ⟨by show s.nx + j < s.nx + _; omega, ?_⟩
    rw [e2]
    exact objOK.pure hm3 (ho _ (List.getElem_mem hj)) (hRH3.obj (σ j) _ (by rw [hobj j hj, List.getElem?_eq_getElem hj])).2
   ·obtain ⟨e1, e2⟩ := hHold id hi
    rw [e1] at hido
    obtain ⟨h1, h2⟩ := hRH.obj id o hido
    refine ⟨by show id < s.nx + _; omega, ?_⟩
    rw [e2]
    exact h2.mono hlate fun b hb' => hold b (h2.lt hb')
  ·by_cases h1 : s.nx ≤ i ∧ i < s.nx + objs.length
   ·obtain ⟨i', rfl⟩ : ∃ j, i = s.nx + j := ⟨i - s.nx, by omega⟩
    have hi' : i' < objs.length := by omega
    rw [(hHnew i' hi').2] at hbi ⊢
    cases hb : blockOf (s3.κ (σ i')) with
    | none => exact (hbi hb).elim
    | some b =>
     have hb3 := hnew3 b (hown3 i' b hi' hb)
     by_cases h2 : s.nx ≤ j ∧ j < s.nx + objs.length
     ·obtain ⟨j', rfl⟩ : ∃ j', j = s.nx + j' := ⟨j - s.nx, by omega⟩
      have hj' : j' < objs.length := by omega
      rw [(hHnew j' hj').2, ← hb]
      exact hRH3.apart (σ i') (σ j') (hlive i' hi') (hlive j' hj') (fun e => hij (by rw [hinj i' j' hi' hj' e])) (by rw [hb]; simp)
     ·obtain ⟨e1, e2⟩ := hHold j h2
      rw [e1] at hj; rw [e2]
      intro e
      have := hRH.owned_lt (k := b) ⟨j, hRH.fresh hj, hj, e.symm⟩
      omega
   ·obtain ⟨e1, e2⟩ := hHold i h1
    rw [e1] at hi; rw [e2] at hbi ⊢
    by_cases h2 : s.nx ≤ j ∧ j < s.nx + objs.length
    ·obtain ⟨j', rfl⟩ : ∃ j', j = s.nx + j' := ⟨j - s.nx, by omega⟩
     have hj' : j' < objs.length := by omega
     rw [(hHnew j' hj').2]
     cases hb : blockOf (s.κ i) with
     | none => exact (hbi hb).elim
     | some b =>
      intro e
      have h3 := hnew3 b (hown3 j' b hj' e.symm)
      have := hRH.owned_lt (k := b) ⟨i, hRH.fresh hi, hi, hb⟩
      omega
    ·obtain ⟨e3, e4⟩ := hHold j h2
     rw [e3] at hj; rw [e4]
     exact hRH.apart i j hi hj hij hbi

section
variable {st : St} {dst : Option Nat} {n : FuncId} {cap args : List D} {g : List Oper → (St → Prop) → St → Prop} {rest : List Oper} {K : St → Prop}
theorem OC.ac {f : FuncId} {ds : List D} {objs : List HObj} {r : D} (h : OC P f ds objs r) {H : HM} {nx : Nat} {K : D → HM → Nat → Prop} (hk : K (renD (fun j => nx + j) r) (addL H nx objs) (nx + objs.length)) : AC P f ds H nx K :=
 (h.2.2.2 H nx).mono fun _ _ _ ⟨h1, h2, h3⟩ => by subst h1; subst h2; subst h3; exact hk
theorem callW_oc {objs : List HObj} {r : D} (h : OC P n (args ++ cap) objs r) (hk : g rest K ((st.withH (addL st.H st.nx objs) (st.nx + objs.length)).put dst (renD (fun j => st.nx + j) r))) : callW P (.fn n cap) args g rest K st dst :=
 callW_ac (h.ac hk)
def isRow : HObj → Bool
 | .row .. => true
 | _ => false
theorem sameB_addL (st : St) {objs : List HObj} (hr : objs.all isRow = true) : SameB st (addL st.H st.nx objs) (st.nx + objs.length) := by
 refine ⟨Nat.le_add_right _ _, fun id => ⟨fun hlt e cs h => ?_, fun hlt e cs h => ?_⟩⟩
 ·rw [addL_eq, if_neg (by omega)]; exact h
 ·rw [addL_eq] at h
  split at h
  ·rename_i hin
   obtain ⟨hl, he⟩ := List.getElem?_eq_some_iff.1 h
   have := List.all_eq_true.1 hr _ (List.getElem_mem hl)
   rw [he] at this; cases this
  ·exact ⟨by omega, h⟩
theorem callD_oc {own : List Nat} {objs : List HObj} {r : D} (h : OC P n (args ++ cap) objs r) (h0 : isMark 5000000 own dst = false) (hm : isMark 4000000 own dst = true) (hr : objs.all isRow = true)
  (hk : g rest K ((st.withH (addL st.H st.nx objs) (st.nx + objs.length)).put dst (renD (fun j => st.nx + j) r))) : callD P own (.fn n cap) args g rest K st dst :=
 .inr (.inr ⟨h0, hm, _, _, _, h.2.2.2 st.H st.nx, sameB_addL st hr, hk⟩)
end
attribute [go_sem] addL renD renD.renL
end Go.Proofs.YtkhjpcmpljpmjaaGreatDoor.Abs
/-
 What a callee leaves behind is forgotten: contracts of functions that change the caller's objects. No condition.
-/
namespace Go.Proofs.YtkhjpcmpljpmjaaGreatDoor.Abs
open Go.RowKit
variable {P : Program}

def lowD (n : Nat) : D → Bool
 | .osl j _ => decide (j < n)
 | .ptr j _ => decide (j < n)
 | .eptr j _ _ => decide (j < n)
 | .mp j => decide (j < n)
 | .it j => decide (j < n)
 | .agg ds => lowL ds
 | .tup ds => lowL ds
 | .rsl _ _ els => lowL els
 | .rptr d => lowD n d
 | .fn _ cap => lowL cap
 | _ => true
where lowL : List D → Bool
 | [] => true
 | d :: ds => lowD n d && lowL ds
def lowO (n : Nat) : HObj → Bool
 | .box _ cs => lowD.lowL n cs
 | .row _ _ cs => lowD.lowL n cs
 | .map es => lowD.lowL n (es.map (·.1)) && lowD.lowL n (es.map (·.2))
 | .raw _ => true
mutual
theorem low_pure (n : Nat) : ∀ d, pureD d = true → lowD n d = true
 | .agg ds, h => by simp only [pureD] at h; simp only [lowD]; exact lowL_pure n ds h
 | .tup ds, h => by simp only [pureD] at h; simp only [lowD]; exact lowL_pure n ds h
 | .rsl _ _ els, h => by simp only [pureD] at h; simp only [lowD]; exact lowL_pure n els h
 | .rptr d, h => by simp only [pureD] at h; simp only [lowD]; exact low_pure n d h
 | .fn _ cap, h => by simp only [pureD] at h; simp only [lowD]; exact lowL_pure n cap h
 | .any, _ => rfl
 | .int _ _, _ => rfl
 | .bool _, _ => rfl
 | .str _, _ => rfl
 | .nil, _ => rfl
 | .nptr, _ => rfl
 | .nfun, _ => rfl
 | .nmp, _ => rfl
 | .e0, _ => rfl
 | .osl .., h => by cases h
 | .ptr .., h => by cases h
 | .eptr .., h => by cases h
 | .mp _, h => by cases h
 | .it _, h => by cases h
theorem lowL_pure (n : Nat) : ∀ ds, pureD.pureL ds = true → lowD.lowL n ds = true
 | [], _ => rfl
 | d :: ds, h => by
  simp only [pureD.pureL, Bool.and_eq_true] at h
  simp only [lowD.lowL, low_pure n d h.1, lowL_pure n ds h.2, Bool.and_self]
end
mutual
theorem rel_lowD {s : RS} : ∀ (d : D) (v : Value), rel s d v → lowD s.nx d = true
 | .agg ds, v, h => by simp only [rel] at h; obtain ⟨vs, _, h2, _⟩ := h; simp only [lowD]; exact rel_lowL ds vs h2
 | .tup ds, v, h => by simp only [rel] at h; obtain ⟨vs, _, h2⟩ := h; simp only [lowD]; exact rel_lowL ds vs h2
 | .rsl _ _ els, v, h => by
  simp only [rel] at h
  simp only [lowD]
  rcases h with ⟨_, h, _⟩ | ⟨_, _, vs, _, _, _, h4, _⟩
  ·rw [h]; rfl
  ·exact rel_lowL els vs h4
 | .rptr d, v, h => by simp only [rel] at h; obtain ⟨_, u, _, h2, _⟩ := h; simp only [lowD]; exact rel_lowD d u h2
 | .fn _ cap, v, h => by simp only [rel] at h; obtain ⟨vs, _, h2⟩ := h; simp only [lowD]; exact rel_lowL cap vs h2
 | .any, _, _ => rfl
 | .int _ _, _, _ => rfl
 | .bool _, _, _ => rfl
 | .str _, _, _ => rfl
 | .nil, _, _ => rfl
 | .nptr, _, _ => rfl
 | .nfun, _, _ => rfl
 | .nmp, _, _ => rfl
 | .e0, _, _ => rfl
 | .osl .., v, h => by simp only [rel] at h; simp only [lowD, decide_eq_true_iff]; exact h.1
 | .ptr .., v, h => by simp only [rel] at h; simp only [lowD, decide_eq_true_iff]; exact h.1
 | .eptr .., v, h => by simp only [rel] at h; simp only [lowD, decide_eq_true_iff]; exact h.1
 | .mp _, v, h => by simp only [rel] at h; simp only [lowD, decide_eq_true_iff]; exact h.1
 | .it _, v, h => by simp only [rel] at h; simp only [lowD, decide_eq_true_iff]; exact h.1
theorem rel_lowL {s : RS} : ∀ (ds : List D) (vs : List Value), relAll s ds vs → lowD.lowL s.nx ds = true
 | [], _, _ => rfl
 | d :: ds, vs, h => by
  simp only [relAll] at h
  obtain ⟨v, r, _, h1, h2⟩ := h
  simp only [lowD.lowL, rel_lowD d v h1, rel_lowL ds r h2, Bool.and_self]
end
theorem objOK_low {s : RS} {w : World} {v : Value} {o : HObj} (h : objOK P s w v o) : lowO s.nx o = true := by
 cases o with
 | box e cs => obtain ⟨_, vs, _, _, h, _⟩ := h; exact rel_lowL cs vs h
 | row e n cs => obtain ⟨vs, _, h, _⟩ := h; exact rel_lowL cs vs h
 | map es => obtain ⟨_, _, _, _, _, h1, h2⟩ := h; simp only [lowO, rel_lowL _ _ h1, rel_lowL _ _ h2, Bool.and_self]
 | raw o => rfl
mutual
theorem rel_cut {s s' : RS} {n : Nat} (hm : ∀ a v, s.m a = some v → s'.m a = some v) (hn : n ≤ s'.nx) (hH : ∀ id, id < n → s'.H id = s.H id ∧ s'.κ id = s.κ id) :
  ∀ (d : D) (v : Value), lowD n d = true → rel s d v → rel s' d v
 | .agg ds, v, hl, h => by
  simp only [lowD] at hl; simp only [rel] at h ⊢
  obtain ⟨vs, h1, h2, h3⟩ := h
  exact ⟨vs, h1, relAll_cut hm hn hH ds vs hl h2, h3⟩
 | .tup ds, v, hl, h => by
  simp only [lowD] at hl; simp only [rel] at h ⊢
  obtain ⟨vs, h1, h2⟩ := h
  exact ⟨vs, h1, relAll_cut hm hn hH ds vs hl h2⟩
 | .rsl nn sz els, v, hl, h => by
  simp only [lowD] at hl; simp only [rel] at h ⊢
  rcases h with h | ⟨a, cap, vs, h1, h2, h3, h4, h5⟩
  ·exact .inl h
  ·exact .inr ⟨a, cap, vs, h1, h2, h3, relAll_cut hm hn hH els vs hl h4, fun i u hu => ⟨(h5 i u hu).1, (h5 i u hu).2.later hm⟩⟩
 | .rptr d, v, hl, h => by
  simp only [lowD] at hl; simp only [rel] at h ⊢
  obtain ⟨a, u, h1, h2, h3⟩ := h
  exact ⟨a, u, h1, rel_cut hm hn hH d u hl h2, h3.later hm⟩
 | .fn f cap, v, hl, h => by
  simp only [lowD] at hl; simp only [rel] at h ⊢
  obtain ⟨vs, h1, h2⟩ := h
  exact ⟨vs, h1, relAll_cut hm hn hH cap vs hl h2⟩
 | .any, _, _, _ => by simp [rel]
 | .int _ _, v, _, h => by simpa [rel] using h
 | .bool _, v, _, h => by simpa [rel] using h
 | .str _, v, _, h => by simpa [rel] using h
 | .nil, v, _, h => by simpa [rel] using h
 | .nptr, v, _, h => by simpa [rel] using h
 | .nfun, v, _, h => by simpa [rel] using h
 | .nmp, v, _, h => by simpa [rel] using h
 | .e0, v, _, h => by simpa [rel] using h
 | .osl j k, v, hl, h => by
  simp only [lowD, decide_eq_true_iff] at hl; simp only [rel] at h ⊢
  rw [(hH j hl).1, (hH j hl).2]; exact ⟨by omega, h.2⟩
 | .ptr j k, v, hl, h => by
  simp only [lowD, decide_eq_true_iff] at hl; simp only [rel] at h ⊢
  rw [(hH j hl).1, (hH j hl).2]; exact ⟨by omega, h.2⟩
 | .eptr j k o, v, hl, h => by
  simp only [lowD, decide_eq_true_iff] at hl; simp only [rel] at h ⊢
  rw [(hH j hl).1, (hH j hl).2]; exact ⟨by omega, h.2⟩
 | .mp j, v, hl, h => by
  simp only [lowD, decide_eq_true_iff] at hl; simp only [rel] at h ⊢
  rw [(hH j hl).1, (hH j hl).2]; exact ⟨by omega, h.2⟩
 | .it j, v, hl, h => by
  simp only [lowD, decide_eq_true_iff] at hl; simp only [rel] at h ⊢
  rw [(hH j hl).1, (hH j hl).2]; exact ⟨by omega, h.2⟩
theorem relAll_cut {s s' : RS} {n : Nat} (hm : ∀ a v, s.m a = some v → s'.m a = some v) (hn : n ≤ s'.nx) (hH : ∀ id, id < n → s'.H id = s.H id ∧ s'.κ id = s.κ id) :
  ∀ (ds : List D) (vs : List Value), lowD.lowL n ds = true → relAll s ds vs → relAll s' ds vs
 | [], vs, _, h => by simpa [relAll] using h
 | d :: ds, vs, hl, h => by
  simp only [lowD.lowL, Bool.and_eq_true] at hl
  simp only [relAll] at h ⊢
  obtain ⟨v, r, h1, h2, h3⟩ := h
  exact ⟨v, r, h1, rel_cut hm hn hH d v hl.1 h2, relAll_cut hm hn hH ds r hl.2 h3⟩
end
theorem objOK_cut {s s' : RS} {n : Nat} {w : World} {v : Value} {o : HObj} (hm : ∀ a v, s.m a = some v → s'.m a = some v) (hn : n ≤ s'.nx) (hH : ∀ id, id < n → s'.H id = s.H id ∧ s'.κ id = s.κ id)
  (hl : lowO n o = true) (h : objOK P s w v o) : objOK P s' w v o := by
 cases o with
 | box e cs =>
  obtain ⟨b, vs, h1, h2, h3, h4⟩ := h
  exact ⟨b, vs, h1, h2, relAll_cut hm hn hH _ _ hl h3, h4⟩
 | row e k cs =>
  obtain ⟨vs, h1, h2, h3⟩ := h
  exact ⟨vs, h1, relAll_cut hm hn hH _ _ hl h2, h3⟩
 | map es =>
  simp only [lowO, Bool.and_eq_true] at hl
  obtain ⟨r, ens, c, h1, h2, h3, h4⟩ := h
  exact ⟨r, ens, c, h1, h2, relAll_cut hm hn hH _ _ hl.1 h3, relAll_cut hm hn hH _ _ hl.2 h4⟩
 | raw o => exact h
def cutH (n : Nat) (H : HM) : HM := fun id => if id < n then H id else none
theorem AC_drop {f : FuncId} {ds : List D} {H : HM} {nx : Nat} {K : D → HM → Nat → Prop} (h : AC P f ds H nx K)
  (hk : ∀ r H' nx', K r H' nx' → lowD nx r = true ∧ ∀ id o, id < nx → H' id = some o → H id = some o ∨ lowO nx o = true) :
  AC P f ds H nx fun r H2 nx2 => nx2 = nx ∧ ∃ H' nx', K r H' nx' ∧ H2 = cutH nx H' := by
 refine ⟨h.1, fun s w vs h1 h2 h3 h4 => (h.2 s w vs h1 h2 h3 h4).mono fun e w' ⟨v, r, s', he, hK, hstep, hRH, hr⟩ => ?_⟩
 subst h1; subst h2
 obtain ⟨hl, hlo⟩ := hk _ _ _ hK
 let s2 : RS := { s' with H := cutH s.nx s'.H, nx := s.nx }
 have hH : ∀ id, id < s.nx → s2.H id = s'.H id ∧ s2.κ id = s'.κ id := fun id hid => ⟨if_pos hid, rfl⟩
 have hcut : ∀ (d : D) (v : Value), lowD s.nx d = true → rel s' d v → rel s2 d v := rel_cut (s := s') (s' := s2) (fun _ _ h => h) (Nat.le_refl _) hH
 have hown : ∀ k, owned s2 k → owned s' k := fun k ⟨id, hid, h5, h6⟩ => by
  rw [(hH id hid).1] at h5
  exact ⟨id, Nat.lt_of_lt_of_le hid hstep.nx, h5, h6⟩
 refine ⟨v, r, s2, he, ⟨rfl, s'.H, s'.nx, hK, rfl⟩, ?_, ?_, hcut r v hl hr⟩
 ·exact ⟨hstep.os, hstep.tape, hstep.output, hstep.size, Nat.le_refl _, hstep.mem, hstep.new, fun id hid => by rw [(hH id hid).1]; exact hstep.objs id hid, hstep.keep, fun k hk' => hstep.own k (hown k hk')⟩
 ·refine ⟨fun a u hm => ⟨(hRH.mem a u hm).1, fun ho => (hRH.mem a u hm).2 (hown _ ho)⟩, fun id o ho => ?_, fun i j hi hj hij hb => ?_, fun g => ?_⟩
  ·have hid : id < s.nx := by
    rcases Nat.lt_or_ge id s.nx with h9 | h9
    ·exact h9
    ·have : s2.H id = none := if_neg (by omega)
     rw [this] at ho; cases ho
   rw [(hH id hid).1] at ho
   refine ⟨hid, objOK_cut (s := s') (s' := s2) (n := s.nx) (fun _ _ h => h) (Nat.le_refl _) hH ?_ (hRH.obj id o ho).2⟩
   rcases hlo id o hid ho with h9 | h9
   ·exact objOK_low (s := s) (h3.obj id o h9).2
   ·exact h9
  ·have lt : ∀ i, s2.H i ≠ none → i < s.nx ∧ s'.H i ≠ none := fun i hi => by
    rcases Nat.lt_or_ge i s.nx with h9 | h9
    ·exact ⟨h9, by rw [← (hH i h9).1]; exact hi⟩
    ·exact (hi (if_neg (by omega))).elim
   exact hRH.apart i j (lt i hi).2 (lt j hj).2 hij hb
  ·exact hcut _ _ (low_pure _ _ (pure_globD g)) (hRH.glob g)

def Eff {σ : Type} (P : Program) (f : FuncId) (ds : List D) (lo : Nat) (I : σ → HM → Prop) (s s' : σ) (r : D) : Prop :=
 ∀ H nx, lo ≤ nx → I s H → AC P f ds H nx fun r' H' nx' => r' = r ∧ nx' = nx ∧ I s' H' ∧ ∀ id, lo ≤ id → H' id = H id
structure Low {σ : Type} (lo : Nat) (I : σ → HM → Prop) : Prop where
 loc : ∀ s H H', (∀ id, id < lo → H' id = H id) → I s H → I s H'
 low : ∀ s H, I s H → ∀ id o, id < lo → H id = some o → lowO lo o = true
mutual
theorem lowD_mono {m n : Nat} (h : m ≤ n) : ∀ d, lowD m d = true → lowD n d = true
 | .agg ds, hl => by simp only [lowD] at hl ⊢; exact lowL_mono h ds hl
 | .tup ds, hl => by simp only [lowD] at hl ⊢; exact lowL_mono h ds hl
 | .rsl _ _ els, hl => by simp only [lowD] at hl ⊢; exact lowL_mono h els hl
 | .rptr d, hl => by simp only [lowD] at hl ⊢; exact lowD_mono h d hl
 | .fn _ cap, hl => by simp only [lowD] at hl ⊢; exact lowL_mono h cap hl
 | .any, _ => rfl
 | .int _ _, _ => rfl
 | .bool _, _ => rfl
 | .str _, _ => rfl
 | .nil, _ => rfl
 | .nptr, _ => rfl
 | .nfun, _ => rfl
 | .nmp, _ => rfl
 | .e0, _ => rfl
 | .osl .., hl => by simp only [lowD, decide_eq_true_iff] at hl ⊢; omega
 | .ptr .., hl => by simp only [lowD, decide_eq_true_iff] at hl ⊢; omega
 | .eptr .., hl => by simp only [lowD, decide_eq_true_iff] at hl ⊢; omega
 | .mp _, hl => by simp only [lowD, decide_eq_true_iff] at hl ⊢; omega
 | .it _, hl => by simp only [lowD, decide_eq_true_iff] at hl ⊢; omega
theorem lowL_mono {m n : Nat} (h : m ≤ n) : ∀ ds, lowD.lowL m ds = true → lowD.lowL n ds = true
 | [], _ => rfl
 | d :: ds, hl => by
  simp only [lowD.lowL, Bool.and_eq_true] at hl ⊢
  exact ⟨lowD_mono h d hl.1, lowL_mono h ds hl.2⟩
end
theorem lowO_mono {m n : Nat} (h : m ≤ n) {o : HObj} (hl : lowO m o = true) : lowO n o = true := by
 cases o with
 | box e cs => exact lowL_mono h cs hl
 | row e k cs => exact lowL_mono h cs hl
 | map es => simp only [lowO, Bool.and_eq_true] at hl ⊢; exact ⟨lowL_mono h _ hl.1, lowL_mono h _ hl.2⟩
 | raw o => rfl
theorem Eff_intro {σ : Type} {f : FuncId} {ds : List D} {lo : Nat} {I : σ → HM → Prop} {s s' : σ} {r : D} (hI : Low lo I) (hr : pureD r = true)
  (h : ∀ H nx, lo ≤ nx → I s H → AC P f ds H nx fun r' H' _ => r' = r ∧ I s' H' ∧ ∀ id, lo ≤ id → id < nx → H' id = H id) : Eff P f ds lo I s s' r := by
 intro H nx hlo hs
 have h1 := AC_drop (h H nx hlo hs) (fun r' H' nx' ⟨hr', hi, hs'⟩ => by
  subst hr'
  refine ⟨low_pure _ _ hr, fun id o hid ho => ?_⟩
  rcases Nat.lt_or_ge id lo with h9 | h9
  ·exact .inr (lowO_mono hlo (hI.low s' H' hi id o h9 ho))
  ·exact .inl (by rw [← hs' id h9 hid]; exact ho))
 refine ⟨h1.1, fun s w vs e1 e2 e3 e4 => (h1.2 s w vs e1 e2 e3 e4).mono fun e w' ⟨v, r1, s1, he, ⟨hnx, H', nx', ⟨hr', hi, hs'⟩, hcut⟩, hstep, hRH, hrel⟩ => ⟨v, r1, s1, he, ⟨hr', hnx, ?_, fun id hid => ?_⟩, hstep, hRH, hrel⟩⟩
 ·refine hI.loc _ H' _ (fun id hid => ?_) hi
  rw [hcut]; exact if_pos (by omega)
 ·rw [hcut]
  unfold cutH
  split
  ·rename_i hlt; exact hs' id hid hlt
  ·rename_i hlt
   cases hH : H id with
   | none => rfl
   | some o =>
    have := (e3.obj id o (by rw [e1]; exact hH)).1
    omega
theorem PC.eff {f : FuncId} {ds : List D} {r : D} (h : PC P f ds r) {lo : Nat} {σ : Type} {I : σ → HM → Prop} (s : σ) : Eff P f ds lo I s s r := fun H nx _ hs =>
 (h.rc H nx).mono fun _ _ _ ⟨h1, h2, h3⟩ => ⟨h1, h3, by rw [h2]; exact hs, fun id _ => by rw [h2]⟩
theorem callW_eff {σ : Type} {lo : Nat} {I : σ → HM → Prop} {s s' : σ} {r : D} {n : FuncId} {args cap : List D} {g : List Oper → (St → Prop) → St → Prop} {rest : List Oper} {K : St → Prop} {st : St} {dst : Option Nat}
  (h : Eff P n (args ++ cap) lo I s s' r) (hlo : lo ≤ st.nx) (hs : I s st.H)
  (hk : ∀ H', I s' H' → (∀ id, lo ≤ id → H' id = st.H id) → g rest K ((st.withH H' st.nx).put dst r)) : callW P (.fn n cap) args g rest K st dst :=
 callW_ac ((h st.H st.nx hlo hs).mono fun r' H' nx' ⟨h1, h2, h3, h4⟩ => by subst h1; subst h2; exact hk H' h3 h4)
theorem nilbox_to {st : St} {b : Nat} {e : TypeId} (e' : TypeId) (hb : st.H b = some (.box e [.nil])) :
  SealTo P st { st with H := updH (updH st.H st.nx (some (.row e' 0 []))) b (some (.box e [.osl st.nx 0])), nx := st.nx + 1 } := by
 intro N s a w hf
 have hHb : s.H b = some (.box e [.nil]) := by rw [hf.H]; exact hb
 have hne : b ≠ s.nx := by have := (hf.heap.obj b _ hHb).1; omega
 obtain ⟨g1, g2⟩ := new_obj hf.heap (Grew.refl w) (.row e' 0 []) (.slice none 0 0) (fun b hb => by cases hb) ⟨[], ⟨by simp, .inl ⟨rfl, rfl⟩⟩, relAll_nil, by intro v hv; cases hv⟩
 have hb2 : (s.add (.slice none 0 0) (.row e' 0 [])).H b = some (.box e [.nil]) := by simp [RS.add, updH, hne, hHb]
 obtain ⟨_, q2⟩ := g2.obj b _ hb2
 obtain ⟨g3, g4⟩ := set_obj (w' := w) g2 b _ (.box e [.osl s.nx 0]) ((s.add (.slice none 0 0) (.row e' 0 [])).κ b) hb2 rfl rfl rfl (Nat.le_refl _) (fun _ _ _ => rfl) (.inr ⟨_, rfl, rfl⟩) (fun b hb => .inl hb) (fun hl => by
  obtain ⟨b', vs, u1, u2, u3, u4⟩ := q2
  refine ⟨b', vs, u1, u2, ?_, u4⟩
  simp only [relAll, rel] at u3
  obtain ⟨v, r, rfl, rfl, rfl⟩ := u3
  refine relAll_cons ?_ relAll_nil
  simp only [rel]
  refine ⟨by simp [RS.set, RS.add], ⟨_, _, rfl⟩, fun e2 k cs hH => ⟨Nat.zero_le _, fun _ => ?_⟩⟩
  simp only [RS.set, RS.add]
  rw [if_neg (fun h => hne h.symm)]
  simp)
 refine ⟨_, ⟨?_, ?_, hf.size, hf.defers, fun i => rel.later (g1.trans g3).later _ _ (hf.tmps i), g4⟩, g1.trans g3⟩
 ·simp only [RS.set, RS.add, hf.H, hf.nx]
 ·simp only [RS.set, RS.add, hf.nx]
theorem awp_seq_seal {id : Nat} {l : List Oper} {b : Code} {own : List Nat} {Q : Exit → St → Prop} {st : St} (h : ∀ K : St → Prop, (∀ st st', SealTo P st st' → awp P own b Q st' → K st) → awpL P own (l.map (·.dst)) l K st) : awp P own (.seq (.region id l.toArray false) b) Q st :=
 ⟨fun h => (by cases h), fun _ => h _ fun _ st' hs hb => ⟨st', hs, hb⟩⟩
theorem low_list {σ : Type} {lo : Nat} (objs : σ → List HObj) (hl : ∀ s, (objs s).length = lo) (ho : ∀ s, ∀ o ∈ objs s, lowO lo o = true) : Low lo fun s H => ∀ j, j < lo → H j = (objs s)[j]? :=
 ⟨fun s H H' h hs j hj => (h j hj).trans (hs j hj), fun s H hs id o hid hH => by
  rw [hs id hid] at hH
  exact ho s o (List.mem_of_getElem? hH)⟩
theorem boolS : (∀ (p : Prop) [Decidable p], (decide p = true) = p) ∧ (∀ (p : Prop) [Decidable p], (decide p = false) = ¬p) ∧ (∀ p : Prop, (¬¬p) ↔ p) ∧ (∀ (α : Type) [BEq α] [LawfulBEq α] (a b : α), (a == b) = true ↔ a = b) ∧ (∀ (α : Type) [BEq α] [LawfulBEq α] (a b : α), (a == b) = false ↔ a ≠ b) ∧ (∀ (α : Type) [BEq α] [LawfulBEq α] (a b : α), (a != b) = true ↔ a ≠ b) ∧ (∀ (α : Type) (a b : α), (a ≠ b) = ¬(a = b)) ∧ (∀ b : Bool, ((!b) = true) = (b = false)) ∧ (∀ b : Bool, ((!b) = false) = (b = true)) ∧ (∀ a b : Bool, ((a && b) = true) = (a = true ∧ b = true)) ∧ (∀ a b : Bool, ((a || b) = true) = (a = true ∨ b = true)) ∧ (∀ a b : Bool, ((a && b) = false) = (a = true → b = false)) ∧ (∀ a b : Bool, ((a || b) = false) = (a = false ∧ b = false)) ∧ (∀ b : Bool, (¬(b = true)) = (b = false)) ∧ (∀ b : Bool, (¬(b = false)) = (b = true)) :=
 ⟨fun p _ => decide_eq_true_eq, fun p _ => by simp, fun p => Classical.not_not, fun α _ _ a b => beq_iff_eq, fun α _ _ a b => beq_eq_false_iff_ne, fun α _ _ a b => bne_iff_ne, fun α a b => rfl, fun b => by cases b <;> simp, fun b => by cases b <;> simp, fun a b => by cases a <;> cases b <;> simp, fun a b => by cases a <;> cases b <;> simp, fun a b => by cases a <;> cases b <;> simp, fun a b => by cases a <;> cases b <;> simp, fun b => by cases b <;> simp, fun b => by cases b <;> simp⟩
end Go.Proofs.YtkhjpcmpljpmjaaGreatDoor.Abs
