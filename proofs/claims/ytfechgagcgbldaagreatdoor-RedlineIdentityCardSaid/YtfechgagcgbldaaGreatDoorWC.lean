import Derived.Test.YtfechgagcgbldaaGreatDoorWB
import Derived.ProofKit
import Derived.ChangeSlices
import Derived.Below
import Derived.ChangeArms
import Derived.DataReads
import Derived.Test.YtfechgagcgbldaaGreatDoorProg
import Derived.KernelRfl
import Derived.Test.YtfechgagcgbldaaGreatDoorRows
import Derived.OpenShut
import Derived.LaidMore
import Derived.MakeChecks
import Derived.FnData
import Derived.Carry
import Derived.WideShapes
import Derived.Laws.RangeAny
/-
 Lemmas of the claim. No condition but those that each names.
-/
set_option linter.unusedSimpArgs false
set_option linter.unusedVariables false
set_option maxRecDepth 100000
set_option maxHeartbeats 8000000
set_option linter.unusedSectionVars false
namespace Go.Proofs.YtfechgagcgbldaaGreatDoor.Abs
open Go.RowKit

theorem z3i {n : Int} (h : -9223372036854775808 <= n /\ n <= 9223372036854775807) : IntKind.i64.wrap n = n := by rw [IntKind.wrap_i64]; omega
theorem z4f {α : Type} (f : α -> D) (l : List α) (k : Nat) (h : k < l.length) : zgt (l.map f) (k : Int) = some (f l[k]) := by
 unfold zgt
 rw [if_pos ⟨by omega, by simpa using h⟩]
 simp [h]
theorem z0g {α : Type} {f : α -> D} (h : ∀ x, pureD (f x) = true) : ∀ (l : List α), pureD.pureL (l.map f) = true
 | [] => rfl
 | x :: l => by simp only [List.map_cons, pureD.pureL, h x, z0g h l, Bool.and_self]
theorem z04 {P : Program} {H : HM} {d : D} (k : Nat) (h : pureD d = true) : z2m P H (k + 1) d = some d := by unfold z2m; rw [if_pos h]
theorem zc4 {P : Program} {H : HM} (k : Nat) : ∀ (ds : List D), pureD.pureL ds = true -> zeo (z2m P H (k + 1)) ds = some ds
 | [], _ => rfl
 | d :: ds, h => by
  simp only [pureD.pureL, Bool.and_eq_true] at h
  simp only [zeo, z04 k h.1, zc4 k ds h.2]
theorem z9t : ∀ (cs : List D), z1u false 1 cs.length cs = cs
 | [] => rfl
 | c :: cs => by
  simp only [List.length_cons, z1u, Bool.false_eq_true, if_false, List.getElem?_cons_zero, Option.getD_some, List.drop_succ_cons, List.drop_zero]
  rw [z9t cs]
theorem z7t {P : Program} {H : HM} {id n e : Nat} {cs : List D} (k : Nat) (hH : H id = some (.row e n cs)) (ha : z05 P e = false) (hs : z01 P e = 1) (hn : cs.length = n) (hp : pureD.pureL cs = true) :
  z2m P H (k + 2) (.osl id n) = some (.rsl false 1 cs) := by
 unfold z2m
 simp only [pureD, Bool.false_eq_true, if_false, hH, ha, hs, and_self, or_true, if_true]
 rw [zc4 k cs hp]
 simp only [Option.map_some]
 rw [<- hn, z9t]

def zad (l : List Int) : D := .rsl false 1 (l.map fun n => .int .i64 n)
def z2b (l : List ByteArray) : D := .rsl false 1 (l.map .str)
theorem z6e (l : List Int) : pureD (zad l) = true := by simp only [zad, pureD]; exact z0g (fun _ => rfl) l
theorem z31 (l : List ByteArray) : pureD (z2b l) = true := by simp only [z2b, pureD]; exact z0g (fun _ => rfl) l
end Go.Proofs.YtfechgagcgbldaaGreatDoor.Abs
namespace Go.Proofs.YtfechgagcgbldaaGreatDoor.Abs
theorem z1p {P : Program} {H : HM} {nx k : Nat} {d r : D} (hp : pureD d = true) (h : Le d r) : Fin P (k + 1) r d H nx := ⟨d, z04 k hp, h⟩
theorem z00 {P : Program} {H : HM} {nx : Nat} {b c : Bool} (h : b = c) : Fin P 1 (.bool c) (.bool b) H nx := z1p rfl (by rw [h]; exact Le.refl _)
theorem z1q {P : Program} {H : HM} {nx : Nat} {b c : Int} (h : b = c) : Fin P 1 (.int .i64 c) (.int .i64 b) H nx := z1p rfl (by rw [h]; exact Le.refl _)
theorem zwk {P : Program} {H : HM} {nx k sz : Nat} {els : List D} (h : els = []) : Fin P (k + 1) (.rsl false sz els) .nil H nx := z1p rfl (by rw [h]; exact Le.nil sz)
theorem fin_row {P : Program} {H : HM} {id n e nx : Nat} {cs els : List D} (k : Nat) (hH : H id = some (.row e n cs)) (ha : z05 P e = false) (hs : z01 P e = 1) (hn : cs.length = n) (hp : pureD.pureL cs = true) (he : cs = els) :
  Fin P (k + 2) (.rsl false 1 els) (.osl id n) H nx := ⟨_, z7t k hH ha hs hn hp, by rw [he]; exact Le.refl _⟩
theorem zjb {α β : Type} (f : α -> β) (x : α) : ∀ n, (List.replicate n [f x]).flatten = (List.replicate n x).map f
 | 0 => rfl
 | n + 1 => by simp [List.replicate_succ, zjb f x n]
end Go.Proofs.YtfechgagcgbldaaGreatDoor.Abs
namespace Go.Proofs.YtfechgagcgbldaaGreatDoor.Abs
open Go.RowKit
theorem z4g {P : Program} {H : HM} {id e : Nat} {c d : D} (k : Nat) (hH : H id = some (.box e [c])) (ha : z05 P e = false) (hc : z2m P H k c = some d) : z2m P H (k + 1) (.ptr id 0) = some (.rptr d) := by
 unfold z2m
 simp only [pureD, Bool.false_eq_true, if_false, hH, ha, false_or, List.length_cons, List.length_nil, and_self, if_true, zeo, hc, Option.map_some, List.getElem?_cons_zero, Option.getD_some]
theorem z07 {P : Program} {H : HM} {k : Nat} {d d' : D} {ds ds' : List D} (h : z2m P H k d = some d') (hs : zeo (z2m P H k) ds = some ds') : zeo (z2m P H k) (d :: ds) = some (d' :: ds') := by
 simp only [zeo, h, hs]
theorem z3j {P : Program} {H : HM} {k : Nat} : zeo (z2m P H k) [] = some [] := rfl
end Go.Proofs.YtfechgagcgbldaaGreatDoor.Abs
namespace Go.Proofs.YtfechgagcgbldaaGreatDoor.Abs
open Go.RowKit
theorem zjc {P : Program} {H : HM} {f : FuncId} {cap cap' : List D} (k : Nat) (hp : pureD.pureL cap = false) (hc : zeo (z2m P H k) cap = some cap') : z2m P H (k + 1) (.fn f cap) = some (.fn f cap') := by
 unfold z2m
 simp only [pureD, hp, Bool.false_eq_true, if_false, hc, Option.map_some]
theorem z6f {P : Program} {H : HM} {nx k : Nat} {d r : D} (h : z2m P H k d = some r) : Fin P k r d H nx := ⟨r, h, Le.refl _⟩
end Go.Proofs.YtfechgagcgbldaaGreatDoor.Abs
namespace Go.Proofs.YtfechgagcgbldaaGreatDoor.Abs
open Go.RowKit
theorem z5w {α : Type} {f : α -> List D} {sz : Nat} (h : ∀ x, (f x).length = sz) : ∀ (l : List α), z1u true sz l.length (l.flatMap f) = l.map fun x => .agg (f x)
 | [] => rfl
 | x :: l => by
  simp only [List.length_cons, z1u, if_true, List.flatMap_cons, List.map_cons]
  rw [List.take_left' (h x), List.drop_left' (h x), z5w h l]
theorem z1f {α : Type} {f : α -> List D} (h : ∀ x, pureD.pureL (f x) = true) : ∀ (l : List α), pureD.pureL (l.flatMap f) = true
 | [] => rfl
 | x :: l => by
  have app : ∀ (a b : List D), pureD.pureL a = true -> pureD.pureL b = true -> pureD.pureL (a ++ b) = true := by
   intro a b
   induction a with
   | nil => intro _ h; exact h
   | cons d ds ih =>
    intro h1 h2
    simp only [pureD.pureL, Bool.and_eq_true, List.cons_append] at h1 ⊢
    exact ⟨h1.1, ih h1.2 h2⟩
  exact app _ _ (h x) (z1f h l)
theorem z1b {α : Type} {P : Program} {H : HM} {id e sz : Nat} {f : α -> List D} {l : List α} (k : Nat) (hH : H id = some (.row e l.length (l.flatMap f))) (ha : z05 P e = true) (hs : z01 P e = sz) (h : ∀ x, (f x).length = sz) (hp : ∀ x, pureD.pureL (f x) = true) :
  z2m P H (k + 2) (.osl id l.length) = some (.rsl false sz (l.map fun x => .agg (f x))) := by
 unfold z2m
 simp only [pureD, Bool.false_eq_true, if_false, hH, ha, true_or, and_self, if_true, hs]
 rw [zc4 k _ (z1f hp l)]
 simp only [Option.map_some, z5w h]
end Go.Proofs.YtfechgagcgbldaaGreatDoor.Abs
namespace Go.Proofs.YtfechgagcgbldaaGreatDoor.Abs
theorem zd4 {H : HM} {i j : Nat} {o : Option HObj} (h : ¬ j = i) : z10 H i o j = H j := if_neg h
theorem updH_eq {H : HM} {i : Nat} {o : Option HObj} : z10 H i o i = o := if_pos rfl
end Go.Proofs.YtfechgagcgbldaaGreatDoor.Abs
namespace Go.Proofs.YtfechgagcgbldaaGreatDoor.Abs
open Go.RowKit
theorem PC.le {P : Program} {f : FuncId} {ds es : List D} {r : D} (h : PC P f es r) (hp : pureD.pureL ds = true) (hl : LeL ds es) : PC P f ds r :=
 ⟨hp, h.2.1, h.2.2.1, fun s w vs h1 h2 h3 h4 => h.2.2.2 s w vs h1 h2 h3 (z93 hl h4)⟩
end Go.Proofs.YtfechgagcgbldaaGreatDoor.Abs
namespace Go.Proofs.YtfechgagcgbldaaGreatDoor.Abs
open Go.RowKit Go.ChangeShapes

def z7u (W : World) : RS := { m := W.cell?, H := noH, nx := 0, κ := fun _ => .pointer none }
def zwl (W : World) : Prop := ∀ g, rel (z7u W) (globD g) (.pointer (some ⟨g, 0, none⟩))

theorem z00q (P : Program) (W : World) (hg : zwl W) : RH P (z7u W) W :=
 ⟨fun a v h => ⟨h, by rintro ⟨id, hid, _⟩; exact absurd hid (Nat.not_lt_zero _)⟩, fun id o ho => (by cases ho), fun i j hi => (hi rfl).elim, hg⟩
theorem zwm {P : Program} {f : FuncId} {ds : List D} {v : Value} {d : D} (h : PC P f ds d) (V : ∀ s u, rel s d u -> u = v) {W : World} (hg : zwl W) {vs : List Value} (hr : relAll (z7u W) ds vs) :
  Calls P f vs.toArray W fun e W' => e = .returned v /\ Below W.heap.size W W' := by
 refine (h.2.2.2 (z7u W) W vs rfl rfl (z00q P W hg) hr).mono fun e W' ⟨u, r', s', he, hrr, hstep, _, hrel⟩ => ?_
 subst hrr
 rw [V _ _ hrel] at he
 exact ⟨he, hstep.os, hstep.tape, hstep.output, hstep.size, fun k O => hstep.keep k O (by rintro ⟨id, hid, _⟩; exact absurd hid (Nat.not_lt_zero _))⟩
end Go.Proofs.YtfechgagcgbldaaGreatDoor.Abs
namespace Go.Proofs.YtfechgagcgbldaaGreatDoor.Abs
open Go.RowKit Go.ChangeShapes
end Go.Proofs.YtfechgagcgbldaaGreatDoor.Abs
namespace Go.Proofs.YtfechgagcgbldaaGreatDoor.Abs
open Go.RowKit
variable {P : Program} {own : List Nat} {Q : Exit -> St -> Prop} {st : St}

theorem zqd {c : Operand} {x y b : Code} (t : Bool) (ht : st.ev c = .bool t) (h1 : t = true -> awp P own (.seq x b) Q st) (h2 : t = false -> awp P own (.seq y b) Q st) : awp P own (.seq (.cond c x y) b) Q st :=
 ⟨t, ht, h1, h2⟩
theorem zqb {b : Code} (h : awp P own b Q st) : awp P own (.seq .skip b) Q st := ⟨st, SealTo.refl st, h⟩
theorem zqg {b : Code} (h : Q .ret st) : awp P own (.seq .ret b) Q st := h
theorem zqc {b : Code} {id : Nat} (h : Q (.exit id) st) : awp P own (.seq (.exit id) b) Q st := h
theorem zqa {id : Nat} {c b : Code} (h : awp P own c (znd id (zm6 (fun st => ∃ st', SealTo P st st' /\ awp P own b Q st') Q)) st) : awp P own (.seq (.block id c) b) Q st := h
theorem zqr {id : Nat} {l : List Oper} (h : ∀ K : St -> Prop, (∀ st, Q .normal st -> K st) -> z1v P own (l.map (·.dst)) l K st) : awp P own (.region id l.toArray false) Q st :=
 z3q (h _ fun _ h => h)
theorem zqq {id : Nat} {l : List Oper} (h0 : zhw own l.toArray = true) (h : ∀ K : St -> Prop, (∀ st, Q .normal st -> K st) -> z2p P own (l.map (·.dst)) l K st) : awp P own (.region id l.toArray true) Q st :=
 zep h0 (h _ fun _ h => h)
theorem z45 {c : Code} (I : Nat -> St -> Prop) (h0 : ∃ n, I n st) (h : ∀ n st', I n st' -> awp P own c (zne I n Q) st') : awp P own (.loop c) Q st := ⟨I, h0, h⟩
def isRN : Exit -> Bool
 | .normal | .ret => true
 | _ => false
theorem zqu {e : Exit} {rs : List ResultVar} {K : D -> HM -> Nat -> Prop} {d : D} (h : resD P st rs = some d) (he : isRN e = true) (hF : K d st.H st.nx) : retQ P rs K e st := by
 cases e <;> first | exact ⟨d, h, hF⟩ | cases he
theorem zqv {Q' : Exit -> St -> Prop} {b : Code} (h : awp P own b Q st) : zm6 (fun st => ∃ st', SealTo P st st' /\ awp P own b Q st') Q' .normal st := ⟨st, SealTo.refl st, h⟩
theorem zqx {k : St -> Prop} (h : Q .ret st) : zm6 k Q .ret st := h
theorem zqy {id : Nat} (h : Q .normal st) : znd id Q .normal st := h
theorem zqz {id : Nat} (h : Q .normal st) : znd id Q (.exit id) st := by
 simp only [znd, if_true]; exact h
theorem zqzb {id : Nat} (h : Q .ret st) : znd id Q .ret st := h
theorem zqp {I : Nat -> St -> Prop} {n id : Nat} (h : Q (.exit id) st) : zne I n Q (.exit id) st := h
theorem zqo {I : Nat -> St -> Prop} {n : Nat} (h : Q .ret st) : zne I n Q .ret st := h
section
variable {f : List Oper -> (St -> Prop) -> St -> Prop} {rest : List Oper} {K : St -> Prop} {dst : Option Nat}
theorem zqf {b : Bool} {op : Op} {ty : TypeId} {pos : String} {aft : Array Edge} {g : Option (Nat × Bool)} (h1 : b = true -> f (⟨dst, op, ty, pos, aft, g⟩ :: rest) K st) (h2 : b = false -> f rest K (st.put dst (.tup []))) :
  zw1 (some b) f ⟨dst, op, ty, pos, aft, g⟩ rest K st := by
 cases b with
 | true => exact h1 rfl
 | false => exact h2 rfl
end
attribute [go_sem] zad z2b
theorem zwn {α : Type} {f : α -> D} {l : List α} {i : Int} (h0 : 0 <= i) (h : i.toNat < l.length) : zgt (l.map f) i = some (f l[i.toNat]) := by
 unfold zgt
 rw [if_pos ⟨h0, by simp; omega⟩]
 simp [h]
theorem z00r {α : Type} {c : Prop} [Decidable c] {x : α} (h : c) : (if c then some x else none) = some x := if_pos h
theorem zwo {α β : Type} (f : α -> β) (l : List α) (i : Nat) : (l.map f).take i = (l.take i).map f := (List.map_take).symm
theorem zwp {α β : Type} (f : α -> β) (l : List α) (i : Nat) : (l.map f).drop i = (l.drop i).map f := (List.map_drop).symm
theorem zsj : maxLen = 9223372036854775807 := rfl
attribute [go_sem] zwo zwp zsj
theorem nbeq {a b : Nat} (h : ¬ a = b) : (a == b) = false := by simpa using h
theorem nb1 {a : Nat} {st : St} (h : ¬ a = st.nx) : (a == st.nx) = false := nbeq h
theorem nb2 {a : Nat} {st : St} (h : ¬ st.nx = a) : (st.nx == a) = false := nbeq h
theorem nb3 {a k : Nat} {st : St} (h : ¬ a = st.nx + k) : (a == st.nx + k) = false := nbeq h
theorem nb4 {a k : Nat} {st : St} (h : ¬ st.nx + k = a) : (st.nx + k == a) = false := nbeq h
theorem zwq {α : Type} {f : α -> D} {l : List α} {k : Nat} (h : k < l.length) : zgt (l.map f) (k : Int) = some (f l[k]) := z4f f l k h
theorem AC.split {f : FuncId} {pre post : List D} {sz : Nat} {els : List D} {H : HM} {nx : Nat} {K : D -> HM -> Nat -> Prop} (h0 : els = [] -> AC P f (pre ++ .nil :: post) H nx K) (h1 : AC P f (pre ++ .rsl true sz els :: post) H nx K) :
  AC P f (pre ++ .rsl false sz els :: post) H nx K := by
 refine ⟨h1.1, fun s w vs hH hnx hRH hr => ?_⟩
 have key : ∀ (pre : List D) (vs : List Value), relAll s (pre ++ .rsl false sz els :: post) vs -> (els = [] /\ relAll s (pre ++ .nil :: post) vs) \/ relAll s (pre ++ .rsl true sz els :: post) vs := by
  intro pre
  induction pre with
  | nil =>
   intro vs hr
   simp only [List.nil_append, relAll] at hr ⊢
   obtain ⟨v, r, h1, h2, h3⟩ := hr
   simp only [rel] at h2
   rcases h2 with ⟨_, h4, h5⟩ | h2
   ·exact .inl ⟨h4, v, r, h1, by simpa only [rel] using h5, h3⟩
   ·exact .inr ⟨v, r, h1, by simp only [rel]; exact .inr h2, h3⟩
  | cons d ds ih =>
   intro vs hr
   simp only [List.cons_append, relAll] at hr ⊢
   obtain ⟨v, r, h1, h2, h3⟩ := hr
   rcases ih r h3 with ⟨h4, h5⟩ | h4
   ·exact .inl ⟨h4, v, r, h1, h2, h5⟩
   ·exact .inr ⟨v, r, h1, h2, h4⟩
 rcases key pre vs hr with ⟨h2, h3⟩ | h2
 ·exact (h0 h2).2 s w vs hH hnx hRH h3
 ·exact h1.2 s w vs hH hnx hRH h2
theorem z95 {P : Program} {H : HM} {ds ds' : List D} (k : Nat) (hp : pureD.pureL ds = false) (hc : zeo (z2m P H k) ds = some ds') : z2m P H (k + 1) (.agg ds) = some (.agg ds') := by
 unfold z2m
 simp only [pureD, hp, Bool.false_eq_true, if_false, hc, Option.map_some]
theorem zg1 {cs : List D} {n : Nat} (h : n = cs.length) : z1u false 1 n cs = cs := by subst h; exact z9t cs
theorem z6w {α : Type} {f : α -> D} (h : ∀ x, z48 (f x) = some [f x]) : ∀ (l : List α), z1m 1 (l.map f) = some (l.map f)
 | [] => rfl
 | x :: l => by simp [z1m, h, z6w h l]
theorem zwr (l : List ByteArray) : z1m 1 (l.map D.str) = some (l.map D.str) := z6w (fun _ => rfl) l
theorem zws {k : IntKind} (l : List Int) : z1m 1 (l.map (D.int k)) = some (l.map (D.int k)) := z6w (fun _ => rfl) l
theorem zer (l : List ByteArray) : pureD.pureL (l.map D.str) = true := z0g (fun _ => rfl) l
theorem z00s {k : IntKind} (l : List Int) : pureD.pureL (l.map (D.int k)) = true := z0g (fun _ => rfl) l
theorem zsk {α : Type} (f : α -> D) (l : List α) : z1u false 1 l.length (l.map f) = l.map f := zg1 (by simp)
attribute [go_sem] List.nil_append List.cons_append Bool.false_or Bool.or_true Bool.true_or Bool.or_false zsk
theorem zlm (a b : List D) : pureD.pureL (a ++ b) = (pureD.pureL a && pureD.pureL b) := by
 induction a with
 | nil => rfl
 | cons d ds ih => simp only [List.cons_append, pureD.pureL, ih, Bool.and_assoc]
attribute [go_sem] zlm
theorem znk {α : Type} (f : α -> D) (l : List α) (x : D) : z1u false 1 (l.length + 1) (l.map f ++ [x]) = l.map f ++ [x] := zg1 (by simp)
attribute [go_sem high] znk
theorem zwt {k : IntKind} (l : List Nat) : z1m 1 (l.map fun n => D.int k (n : Nat)) = some (l.map fun n => D.int k (n : Nat)) := z6w (fun _ => rfl) l
theorem z00t {k : IntKind} (l : List Nat) : pureD.pureL (l.map fun n => D.int k (n : Nat)) = true := z0g (fun _ => rfl) l
attribute [go_sem] zwr zws zer z00s zwt z00t

def zwu (P : Program) (id : Nat) (e : TypeId) (k : Nat) (cs : List D) : D -> D
 | .osl j n => cond (j == id && n == k) (.rsl false (z01 P e) (z1u (z05 P e) (z01 P e) k cs)) (.osl j n)
 | d => d
def seal1 (P : Program) (id : Nat) (e : TypeId) (k : Nat) (cs : List D) : D -> D
 | .agg ds => .agg (ds.map (zwu P id e k cs))
 | d => zwu P id e k cs d
def sealO (P : Program) (id : Nat) (e : TypeId) (k : Nat) (cs : List D) : HObj -> HObj
 | .box t ds => .box t (ds.map (zwu P id e k cs))
 | .row t n ds => .row t n (ds.map (zwu P id e k cs))
 | o => o
def St.given (P : Program) (st : St) (id : Nat) (e : TypeId) (k : Nat) (cs : List D) : St :=
 {t := fun i => seal1 P id e k cs (st.t i), H := fun j => cond (j == id) none ((st.H j).map (sealO P id e k cs)), nx := st.nx }
@[go_sem] theorem t_seal (st : St) (id e k : Nat) (cs : List D) (i : Nat) : (st.given P id e k cs).t i = seal1 P id e k cs (st.t i) := rfl
@[go_sem] theorem H_seal (st : St) (id e k : Nat) (cs : List D) (j : Nat) : (st.given P id e k cs).H j = cond (j == id) none ((st.H j).map (sealO P id e k cs)) := rfl
@[go_sem] theorem nx_seal (st : St) (id e k : Nat) (cs : List D) : (st.given P id e k cs).nx = st.nx := rfl
attribute [go_sem] zwu seal1 sealO
attribute [go_sem] Bool.not_true Bool.not_false decide_true decide_false List.getElem?_toArray List.map_map ne_eq not_true_eq_false not_false_eq_true List.length_map Nat.zero_le Option.some.injEq List.length_cons List.length_nil beq_self_eq_true Bool.true_and Bool.and_true true_or or_true List.drop_zero List.set_cons_zero List.set_cons_succ List.take_succ_cons List.take_zero List.drop_succ_cons D.int.injEq Prod.mk.injEq Int.toNat_natCast Nat.mul_one Nat.zero_add Nat.add_zero Int.natCast_nonneg List.getElem?_map List.length_set List.length_append List.length_replicate List.length_take List.length_drop List.take_length Bool.false_and Bool.and_false
attribute [go_sem] zwq zwn z3i nb1 nb2 nb3 nb4 z00r resD allR valR
end Go.Proofs.YtfechgagcgbldaaGreatDoor.Abs
namespace Go.Proofs.YtfechgagcgbldaaGreatDoor.Abs
open Go.RowKit
variable {P : Program}

def z77 : HObj -> Bool
 | .box _ cs => pureD.pureL cs
 | .row _ _ cs => pureD.pureL cs
 | .map es => pureD.pureL (es.map (·.1)) && pureD.pureL (es.map (·.2))
 | .raw _ => true
def renD (g : Nat -> Nat) : D -> D
 | .osl j n => .osl (g j) n
 | .ptr j off => .ptr (g j) off
 | .mp j => .mp (g j)
 | .agg ds => .agg (renL ds)
 | .tup ds => .tup (renL ds)
 | d => d
where renL : List D -> List D
 | [] => []
 | d :: ds => renD g d :: renL ds
def okD (k : Nat) : D -> Bool
 | .osl j _ => decide (j < k)
 | .ptr j _ => decide (j < k)
 | .mp j => decide (j < k)
 | .agg ds => okL ds
 | .tup ds => okL ds
 | d => pureD d
where okL : List D -> Bool
 | [] => true
 | d :: ds => okD k d && okL ds
def zjq (H : HM) (nx : Nat) : List HObj -> HM
 | [] => H
 | o :: os => zjq (z10 H nx (some o)) (nx + 1) os
theorem zg2 : ∀ (os : List HObj) (H : HM) (nx i : Nat), zjq H nx os i = if nx <= i /\ i < nx + os.length then os[i - nx]? else H i
 | [], H, nx, i => by
  simp only [zjq, List.length_nil, Nat.add_zero]
  rw [if_neg (by omega)]
 | o :: os, H, nx, i => by
  simp only [zjq, zg2 os, List.length_cons, z10]
  by_cases h : nx + 1 <= i /\ i < nx + 1 + os.length
  ·rw [if_pos h, if_pos (by omega)]
   have : i - nx = (i - (nx + 1)) + 1 := by omega
   rw [this, List.getElem?_cons_succ]
  ·rw [if_neg h]
   by_cases h2 : i = nx
   ·subst h2
    rw [if_pos rfl, if_pos (by omega), Nat.sub_self]; rfl
   ·rw [if_neg h2, if_neg (by omega)]

def OC (P : Program) (f : FuncId) (ds : List D) (objs : List HObj) (r : D) : Prop :=
 pureD.pureL ds = true /\ okD objs.length r = true /\ (∀ o ∈ objs, z77 o = true) /\
  ∀ H nx, AC P f ds H nx fun r' H' nx' => r' = renD (fun j => nx + j) r /\ H' = zjq H nx objs /\ nx' = nx + objs.length

noncomputable def z6g (s s3 : RS) (w w' : World) (k : Nat) (σ : Nat -> Nat) : RS :=
 {m := fun a => if a.block < w.heap.size then s.m a else @ite _ (∃ j, j < k /\ blockOf (s3.κ (σ j)) = some a.block) (Classical.propDecidable _) none (w'.cell? a)
  κ := fun i => if s.nx <= i /\ i < s.nx + k then s3.κ (σ (i - s.nx)) else s.κ i
  H := fun i => if s.nx <= i /\ i < s.nx + k then s3.H (σ (i - s.nx)) else s.H i
  nx := s.nx + k }

mutual
theorem znl {s s' : RS} {k : Nat} {σ τ : Nat -> Nat} (hm : ∀ a v, s.m a = some v -> s'.m a = some v)
  (hnx : ∀ j, j < k -> τ j < s'.nx) (hH : ∀ j, j < k -> s'.H (τ j) = s.H (σ j) /\ s'.κ (τ j) = s.κ (σ j)) : ∀ (d : D) (v : Value), okD k d = true -> rel s (renD σ d) v -> rel s' (renD τ d) v
 | .osl j n, v, O, hr => by
  simp only [okD, decide_eq_true_eq] at O
  simp only [renD, rel] at hr ⊢
  obtain ⟨_, h2, h3⟩ := hr
  obtain ⟨e1, e2⟩ := hH j O
  exact ⟨hnx j O, h2, by rw [e1, e2]; exact h3⟩
 | .ptr j off, v, O, hr => by
  simp only [okD, decide_eq_true_eq] at O
  simp only [renD, rel] at hr ⊢
  obtain ⟨_, h2, h3⟩ := hr
  obtain ⟨e1, e2⟩ := hH j O
  exact ⟨hnx j O, h2, by rw [e1, e2]; exact h3⟩
 | .mp j, v, O, hr => by
  simp only [okD, decide_eq_true_eq] at O
  simp only [renD, rel] at hr ⊢
  obtain ⟨_, h2, h3⟩ := hr
  obtain ⟨e1, e2⟩ := hH j O
  exact ⟨hnx j O, h2, by rw [e1, e2]; exact h3⟩
 | .agg ds, v, O, hr => by
  simp only [okD] at O
  simp only [renD, rel] at hr ⊢
  obtain ⟨vs, h1, h2, h3⟩ := hr
  exact ⟨vs, h1, zd5 hm hnx hH ds vs O h2, h3⟩
 | .tup ds, v, O, hr => by
  simp only [okD] at O
  simp only [renD, rel] at hr ⊢
  obtain ⟨vs, h1, h2⟩ := hr
  exact ⟨vs, h1, zd5 hm hnx hH ds vs O h2⟩
 | .any, v, O, hr => by simp only [renD] at hr ⊢; exact z1r hm _ _ rfl hr
 | .int _ _, v, O, hr => by simp only [renD] at hr ⊢; exact z1r hm _ _ rfl hr
 | .bool _, v, O, hr => by simp only [renD] at hr ⊢; exact z1r hm _ _ rfl hr
 | .str _, v, O, hr => by simp only [renD] at hr ⊢; exact z1r hm _ _ rfl hr
 | .nil, v, O, hr => by simp only [renD] at hr ⊢; exact z1r hm _ _ rfl hr
 | .nptr, v, O, hr => by simp only [renD] at hr ⊢; exact z1r hm _ _ rfl hr
 | .nfun, v, O, hr => by simp only [renD] at hr ⊢; exact z1r hm _ _ rfl hr
 | .nmp, v, O, hr => by simp only [renD] at hr ⊢; exact z1r hm _ _ rfl hr
 | .e0, v, O, hr => by simp only [renD] at hr ⊢; exact z1r hm _ _ rfl hr
 | .rsl nn sz els, v, O, hr => by simp only [okD] at O; simp only [renD] at hr ⊢; exact z1r hm _ _ O hr
 | .rptr d, v, O, hr => by simp only [okD] at O; simp only [renD] at hr ⊢; exact z1r hm _ _ O hr
 | .fsl _ els, v, O, hr => by simp only [okD] at O; simp only [renD] at hr ⊢; exact z1r hm _ _ O hr
 | .fn f cap, v, O, hr => by simp only [okD] at O; simp only [renD] at hr ⊢; exact z1r hm _ _ O hr
 | .bfn f first, v, O, hr => by simp only [okD] at O; simp only [renD] at hr ⊢; exact z1r hm _ _ O hr
 | .eptr .., v, O, hr => by simp only [okD, pureD] at O; cases O
 | .it _, v, O, hr => by simp only [okD, pureD] at O; cases O
theorem zd5 {s s' : RS} {k : Nat} {σ τ : Nat -> Nat} (hm : ∀ a v, s.m a = some v -> s'.m a = some v)
  (hnx : ∀ j, j < k -> τ j < s'.nx) (hH : ∀ j, j < k -> s'.H (τ j) = s.H (σ j) /\ s'.κ (τ j) = s.κ (σ j)) : ∀ (ds : List D) (vs : List Value), okD.okL k ds = true -> relAll s (renD.renL σ ds) vs -> relAll s' (renD.renL τ ds) vs
 | [], vs, _, hr => by simpa [renD.renL, relAll] using hr
 | d :: ds, vs, O, hr => by
  simp only [okD.okL, Bool.and_eq_true] at O
  simp only [renD.renL, relAll] at hr ⊢
  obtain ⟨v, r, h1, h2, h3⟩ := hr
  exact ⟨v, r, h1, znl hm hnx hH d v O.1 h2, zd5 hm hnx hH ds r O.2 h3⟩
end

theorem objOK.pure {s s' : RS} {w : World} {v : Value} {o : HObj} (hm : ∀ a v, s.m a = some v -> s'.m a = some v) (hp : z77 o = true) (h : objOK P s w v o) : objOK P s' w v o := by
 cases o with
 | box e cs =>
  obtain ⟨b, vs, h1, h2, h3, h4⟩ := h
  exact ⟨b, vs, h1, h2, z19 hm _ _ hp h3, h4⟩
 | row e n cs =>
  obtain ⟨vs, h1, h2, h3⟩ := h
  exact ⟨vs, h1, z19 hm _ _ hp h2, h3⟩
 | map es =>
  simp only [z77, Bool.and_eq_true] at hp
  obtain ⟨r, ens, clock, h1, h2, h3, h4⟩ := h
  exact ⟨r, ens, clock, h1, h2, z19 hm _ _ hp.1 h3, z19 hm _ _ hp.2 h4.1, h4.2⟩
 | raw q => exact h

theorem zjd {f : FuncId} {ds : List D} {objs : List HObj} {r : D} (hds : pureD.pureL ds = true) (hr : okD objs.length r = true) (ho : ∀ o ∈ objs, z77 o = true)
  (h : AC P f ds noH 0 fun d H' _ => ∃ σ : Nat -> Nat, (∀ i j, i < objs.length -> j < objs.length -> σ i = σ j -> i = j) /\ d = renD σ r /\ ∀ j, j < objs.length -> H' (σ j) = objs[j]?) : OC P f ds objs r := by
 refine ⟨hds, hr, ho, fun H nx => ⟨h.1, fun s w vs hH hnx hRH hrel => ?_⟩⟩
 subst hH; subst hnx
 let s2 : RS := { s with H := noH, nx := 0 }
 have hno : ∀ k, ¬ owned s2 k := by rintro k ⟨id, hid, _⟩; exact absurd hid (Nat.not_lt_zero _)
 have hRH2 : RH P s2 w := ⟨fun a v hmm => ⟨(hRH.mem a v hmm).1, hno _⟩, fun id o ho => (by cases ho), fun i j hi => (hi rfl).elim, fun g => z1r (s := s) (s' := s2) (fun a v hm => hm) _ _ (z4s g) (hRH.glob g)⟩
 have hr2 : relAll s2 ds vs := z19 (s := s) (s' := s2) (fun a v hm => hm) ds vs hds hrel
 refine (h.2 s2 w vs rfl rfl hRH2 hr2).mono fun e w' ⟨v, d, s3, he, ⟨σ, hinj, V, hobj⟩, hstep, hRH3, hres⟩ => ?_
 subst V
 have hold : ∀ k, k < w.heap.size -> w'.heap[k]? = w.heap[k]? := fun k O => hstep.keep k O (hno k)
 have hnew3 : ∀ k, owned s3 k -> w.heap.size <= k := fun k O => (hstep.own k O).elim (fun h => (hno k h).elim) id
 have hlive : ∀ j, j < objs.length -> s3.H (σ j) ≠ none := fun j hj => by rw [hobj j hj, List.getElem?_eq_getElem hj]; simp
 have hown3 : ∀ j b, j < objs.length -> blockOf (s3.κ (σ j)) = some b -> owned s3 b := fun j b hj hb => ⟨σ j, hRH3.fresh (hlive j hj), hlive j hj, hb⟩
 let s' := z6g s s3 w w' objs.length σ
 have hm3 : ∀ a u, s3.m a = some u -> s'.m a = some u := by
  intro a u hu
  show (z6g s s3 w w' objs.length σ).m a = some u
  simp only [z6g]
  rcases hstep.new a u hu with h1 | h1 | h1
  ·have hlt := hRH.mem_lt (a := a) (v := u) h1
   rw [if_pos hlt]; exact h1
  ·rw [if_neg (by omega), if_neg]
   ·exact (hRH3.mem a u hu).1
   ·rintro ⟨j, hj, hb⟩
    exact (hRH3.mem a u hu).2 (hown3 j _ hj hb)
  ·exact (hno _ h1).elim
 have hm0 : ∀ a u, s.m a = some u -> s'.m a = some u := by
  intro a u hu
  show (z6g s s3 w w' objs.length σ).m a = some u
  simp only [z6g]
  rw [if_pos (hRH.mem_lt hu)]; exact hu
 have hHnew : ∀ j, j < objs.length -> s'.H (s.nx + j) = s3.H (σ j) /\ s'.κ (s.nx + j) = s3.κ (σ j) := by
  intro j hj
  show (z6g s s3 w w' objs.length σ).H (s.nx + j) = _ /\ (z6g s s3 w w' objs.length σ).κ (s.nx + j) = _
  simp only [z6g]
  rw [if_pos (by omega), if_pos (by omega), Nat.add_sub_cancel_left]
  exact ⟨rfl, rfl⟩
 have hHold : ∀ i, ¬ (s.nx <= i /\ i < s.nx + objs.length) -> s'.H i = s.H i /\ s'.κ i = s.κ i := by
  intro i hi
  show (z6g s s3 w w' objs.length σ).H i = _ /\ (z6g s s3 w w' objs.length σ).κ i = _
  simp only [z6g]
  rw [if_neg hi, if_neg hi]
  exact ⟨rfl, rfl⟩
 have hHlow : ∀ i, i < s.nx -> s'.H i = s.H i /\ s'.κ i = s.κ i := fun i hi => hHold i (by omega)
 have hlate : Later s s' := ⟨by show s.nx <= s.nx + _; omega, hm0, fun id hid => by
  obtain ⟨e1, e2⟩ := hHlow id hid
  rw [e1, e2]; exact objLe.refl _ _⟩
 have hown : ∀ k, owned s' k -> owned s k \/ (w.heap.size <= k /\ ∃ j, j < objs.length /\ blockOf (s3.κ (σ j)) = some k) := by
  rintro k ⟨id, hid, hH, hb⟩
  by_cases hi : s.nx <= id /\ id < s.nx + objs.length
  ·obtain ⟨j, rfl⟩ : ∃ j, id = s.nx + j := ⟨id - s.nx, by omega⟩
   have hj : j < objs.length := by omega
   rw [(hHnew j hj).2] at hb
   exact .inr ⟨hnew3 k (hown3 j k hj hb), j, hj, hb⟩
  ·obtain ⟨e1, e2⟩ := hHold id hi
   rw [e1] at hH; rw [e2] at hb
   exact .inl ⟨id, hRH.fresh hH, hH, hb⟩
 have hfun : s'.H = zjq s.H s.nx objs := by
  funext i
  rw [zg2]
  by_cases hi : s.nx <= i /\ i < s.nx + objs.length
  ·obtain ⟨j, rfl⟩ : ∃ j, i = s.nx + j := ⟨i - s.nx, by omega⟩
   have hj : j < objs.length := by omega
   rw [if_pos hi, (hHnew j hj).1, hobj j hj, Nat.add_sub_cancel_left]
  ·rw [if_neg hi, (hHold i hi).1]
 refine ⟨v, renD (fun j => s.nx + j) r, s', he, ⟨rfl, hfun, rfl⟩, ?_, ?_, znl hm3 (fun j hj => by show s.nx + j < s.nx + _; omega) hHnew r v hr hres⟩
 ·refine ⟨hstep.os, hstep.tape, hstep.output, hstep.size, hlate.nx, hm0, fun a u hu => ?_, hlate.objs, fun k O _ => hold k O, fun k O => ?_⟩
  ·by_cases hlt : a.block < w.heap.size
   ·refine .inl ?_
    have hu' : (z6g s s3 w w' objs.length σ).m a = some u := hu
    simp only [z6g] at hu'
    rw [if_pos hlt] at hu'; exact hu'
   ·exact .inr (.inl (by omega))
  ·rcases hown k O with h1 | ⟨h1, _⟩
   ·exact .inl h1
   ·exact .inr h1
 ·refine ⟨fun a u hu => ?_, fun id o hido => ?_, fun i j hi hj hij hbi => ?_, fun g => rel.later hlate _ _ (hRH.glob g)⟩
  ·have hu' : (z6g s s3 w w' objs.length σ).m a = some u := hu
   simp only [z6g] at hu'
   split at hu'
   ·rename_i hlt
    obtain ⟨h1, h2⟩ := hRH.mem a u hu'
    refine ⟨by rw [z51 (hold _ hlt)]; exact h1, fun h3 => ?_⟩
    rcases hown _ h3 with h4 | ⟨h4, _⟩
    ·exact h2 h4
    ·omega
   ·rename_i hlt
    split at hu'
    ·cases hu'
    ·rename_i hex
     refine ⟨hu', fun h3 => ?_⟩
     rcases hown _ h3 with h4 | ⟨_, h4⟩
     ·exact hlt (hRH.owned_lt h4)
     ·exact hex h4
  ·by_cases hi : s.nx <= id /\ id < s.nx + objs.length
   ·obtain ⟨j, rfl⟩ : ∃ j, id = s.nx + j := ⟨id - s.nx, by omega⟩
    have hj : j < objs.length := by omega
    obtain ⟨e1, e2⟩ := hHnew j hj
    rw [e1, hobj j hj, List.getElem?_eq_getElem hj] at hido
    cases hido
    refine ⟨by show s.nx + j < s.nx + _; omega, ?_⟩
    rw [e2]
    exact objOK.pure hm3 (ho _ (List.getElem_mem hj)) (hRH3.obj (σ j) _ (by rw [hobj j hj, List.getElem?_eq_getElem hj])).2
   ·obtain ⟨e1, e2⟩ := hHold id hi
    rw [e1] at hido
    obtain ⟨h1, h2⟩ := hRH.obj id o hido
    refine ⟨by show id < s.nx + _; omega, ?_⟩
    rw [e2]
    exact h2.mono hlate fun b hb' => hold b (h2.lt hb')
  ·by_cases h1 : s.nx <= i /\ i < s.nx + objs.length
   ·obtain ⟨i', rfl⟩ : ∃ j, i = s.nx + j := ⟨i - s.nx, by omega⟩
    have hi' : i' < objs.length := by omega
    rw [(hHnew i' hi').2] at hbi ⊢
    cases hb : blockOf (s3.κ (σ i')) with
    | none => exact (hbi hb).elim
    | some b =>
     have F := hnew3 b (hown3 i' b hi' hb)
     by_cases h2 : s.nx <= j /\ j < s.nx + objs.length
     ·obtain ⟨j', rfl⟩ : ∃ j', j = s.nx + j' := ⟨j - s.nx, by omega⟩
      have hj' : j' < objs.length := by omega
      rw [(hHnew j' hj').2, <- hb]
      exact hRH3.apart (σ i') (σ j') (hlive i' hi') (hlive j' hj') (fun e => hij (by rw [hinj i' j' hi' hj' e])) (by rw [hb]; simp)
     ·obtain ⟨e1, e2⟩ := hHold j h2
      rw [e1] at hj; rw [e2]
      intro e
      have := hRH.owned_lt (k := b) ⟨j, hRH.fresh hj, hj, e.symm⟩
      omega
   ·obtain ⟨e1, e2⟩ := hHold i h1
    rw [e1] at hi; rw [e2] at hbi ⊢
    by_cases h2 : s.nx <= j /\ j < s.nx + objs.length
    ·obtain ⟨j', rfl⟩ : ∃ j', j = s.nx + j' := ⟨j - s.nx, by omega⟩
     have hj' : j' < objs.length := by omega
     rw [(hHnew j' hj').2]
     cases hb : blockOf (s.κ i) with
     | none => exact (hbi hb).elim
     | some b =>
      intro e
      have h3 := hnew3 b (hown3 j' b hj' e.symm)
      have := hRH.owned_lt (k := b) ⟨i, hRH.fresh hi, hi, hb⟩
      omega
    ·obtain ⟨e3, e4⟩ := hHold j h2
     rw [e3] at hj; rw [e4]
     exact hRH.apart i j hi hj hij hbi

section
variable {st : St} {dst : Option Nat} {n : FuncId} {cap args : List D} {g : List Oper -> (St -> Prop) -> St -> Prop} {rest : List Oper} {K : St -> Prop}
theorem OC.ac {f : FuncId} {ds : List D} {objs : List HObj} {r : D} (h : OC P f ds objs r) {H : HM} {nx : Nat} {K : D -> HM -> Nat -> Prop} (O : K (renD (fun j => nx + j) r) (zjq H nx objs) (nx + objs.length)) : AC P f ds H nx K :=
 (h.2.2.2 H nx).mono fun _ _ _ ⟨h1, h2, h3⟩ => by subst h1; subst h2; subst h3; exact O
theorem zes {objs : List HObj} {r : D} (h : OC P n (args ++ cap) objs r) (O : g rest K ((st.withH (zjq st.H st.nx objs) (st.nx + objs.length)).put dst (renD (fun j => st.nx + j) r))) : zfy P (.fn n cap) args g rest K st dst :=
 z3h (h.ac O)
end
theorem OC.pc {f : FuncId} {ds : List D} {objs : List HObj} {r r' : D} (k : Nat) (h : OC P f ds objs r) (hp : pureD r' = true) (hs : z2m P (zjq noH 0 objs) k (renD (fun j => 0 + j) r) = some r') : PC P f ds r' :=
 z2i k h.1 hp (h.ac ⟨_, hs, Le.refl _⟩)
attribute [go_sem] zjq renD renD.renL
end Go.Proofs.YtfechgagcgbldaaGreatDoor.Abs
namespace Go.Proofs.YtfechgagcgbldaaGreatDoor.Abs
open Go.RowKit
variable {P : Program}

def lowD (n : Nat) : D -> Bool
 | .osl j _ => decide (j < n)
 | .ptr j _ => decide (j < n)
 | .eptr j _ _ => decide (j < n)
 | .mp j => decide (j < n)
 | .it j => decide (j < n)
 | .agg ds => lowL ds
 | .tup ds => lowL ds
 | .rsl _ _ els => lowL els
 | .fsl _ els => lowL els
 | .rptr d => lowD n d
 | .fn _ cap => lowL cap
 | .bfn _ first => lowL first
 | _ => true
where lowL : List D -> Bool
 | [] => true
 | d :: ds => lowD n d && lowL ds
def lowO (n : Nat) : HObj -> Bool
 | .box _ cs => lowD.lowL n cs
 | .row _ _ cs => lowD.lowL n cs
 | .map es => lowD.lowL n (es.map (·.1)) && lowD.lowL n (es.map (·.2))
 | .raw _ => true
mutual
theorem z6x (n : Nat) : ∀ d, pureD d = true -> lowD n d = true
 | .agg ds, h => by simp only [pureD] at h; simp only [lowD]; exact z22 n ds h
 | .tup ds, h => by simp only [pureD] at h; simp only [lowD]; exact z22 n ds h
 | .rsl _ _ els, h => by simp only [pureD] at h; simp only [lowD]; exact z22 n els h
 | .fsl _ els, h => by simp only [pureD] at h; simp only [lowD]; exact z22 n els h
 | .rptr d, h => by simp only [pureD] at h; simp only [lowD]; exact z6x n d h
 | .fn _ cap, h => by simp only [pureD] at h; simp only [lowD]; exact z22 n cap h
 | .bfn _ first, h => by simp only [pureD] at h; simp only [lowD]; exact z22 n first h
 | .any, _ => rfl
 | .int _ _, _ => rfl
 | .bool _, _ => rfl
 | .str _, _ => rfl
 | .nil, _ => rfl
 | .nptr, _ => rfl
 | .nfun, _ => rfl
 | .nmp, _ => rfl
 | .e0, _ => rfl
 | .osl .., h => by cases h
 | .ptr .., h => by cases h
 | .eptr .., h => by cases h
 | .mp _, h => by cases h
 | .it _, h => by cases h
theorem z22 (n : Nat) : ∀ ds, pureD.pureL ds = true -> lowD.lowL n ds = true
 | [], _ => rfl
 | d :: ds, h => by
  simp only [pureD.pureL, Bool.and_eq_true] at h
  simp only [lowD.lowL, z6x n d h.1, z22 n ds h.2, Bool.and_self]
end
mutual
theorem zpf {s : RS} : ∀ (d : D) (v : Value), rel s d v -> lowD s.nx d = true
 | .agg ds, v, h => by simp only [rel] at h; obtain ⟨vs, _, h2, _⟩ := h; simp only [lowD]; exact z4h ds vs h2
 | .tup ds, v, h => by simp only [rel] at h; obtain ⟨vs, _, h2⟩ := h; simp only [lowD]; exact z4h ds vs h2
 | .rsl _ _ els, v, h => by
  simp only [rel] at h
  simp only [lowD]
  rcases h with ⟨_, h, _⟩ | ⟨_, _, vs, _, _, _, h4, _⟩
  ·rw [h]; rfl
  ·exact z4h els vs h4
 | .fsl _ els, v, h => by
  simp only [rel] at h
  simp only [lowD]
  rcases h with ⟨h, _⟩ | ⟨_, vs, _, _, h4, _⟩
  ·rw [h]; rfl
  ·exact z4h els vs h4
 | .rptr d, v, h => by simp only [rel] at h; obtain ⟨_, u, _, h2, _⟩ := h; simp only [lowD]; exact zpf d u h2
 | .fn _ cap, v, h => by simp only [rel] at h; obtain ⟨vs, _, h2⟩ := h; simp only [lowD]; exact z4h cap vs h2
 | .bfn _ first, v, h => by simp only [rel] at h; obtain ⟨vs, _, h2⟩ := h; simp only [lowD]; exact z4h first vs h2
 | .any, _, _ => rfl
 | .int _ _, _, _ => rfl
 | .bool _, _, _ => rfl
 | .str _, _, _ => rfl
 | .nil, _, _ => rfl
 | .nptr, _, _ => rfl
 | .nfun, _, _ => rfl
 | .nmp, _, _ => rfl
 | .e0, _, _ => rfl
 | .osl .., v, h => by simp only [rel] at h; simp only [lowD, decide_eq_true_iff]; exact h.1
 | .ptr .., v, h => by simp only [rel] at h; simp only [lowD, decide_eq_true_iff]; exact h.1
 | .eptr .., v, h => by simp only [rel] at h; simp only [lowD, decide_eq_true_iff]; exact h.1
 | .mp _, v, h => by simp only [rel] at h; simp only [lowD, decide_eq_true_iff]; exact h.1
 | .it _, v, h => by simp only [rel] at h; simp only [lowD, decide_eq_true_iff]; exact h.1
theorem z4h {s : RS} : ∀ (ds : List D) (vs : List Value), relAll s ds vs -> lowD.lowL s.nx ds = true
 | [], _, _ => rfl
 | d :: ds, vs, h => by
  simp only [relAll] at h
  obtain ⟨v, r, _, h1, h2⟩ := h
  simp only [lowD.lowL, zpf d v h1, z4h ds r h2, Bool.and_self]
end
theorem zg3 {s : RS} {w : World} {v : Value} {o : HObj} (h : objOK P s w v o) : lowO s.nx o = true := by
 cases o with
 | box e cs => obtain ⟨_, vs, _, _, h, _⟩ := h; exact z4h cs vs h
 | row e n cs => obtain ⟨vs, _, h, _⟩ := h; exact z4h cs vs h
 | map es => obtain ⟨_, _, _, _, _, h1, h2, _⟩ := h; simp only [lowO, z4h _ _ h1, z4h _ _ h2, Bool.and_self]
 | raw o => rfl
mutual
theorem zg4 {s s' : RS} {n : Nat} (hm : ∀ a v, s.m a = some v -> s'.m a = some v) (hn : n <= s'.nx) (hH : ∀ id, id < n -> s'.H id = s.H id /\ s'.κ id = s.κ id) :
  ∀ (d : D) (v : Value), lowD n d = true -> rel s d v -> rel s' d v
 | .agg ds, v, hl, h => by
  simp only [lowD] at hl; simp only [rel] at h ⊢
  obtain ⟨vs, h1, h2, h3⟩ := h
  exact ⟨vs, h1, z2s hm hn hH ds vs hl h2, h3⟩
 | .tup ds, v, hl, h => by
  simp only [lowD] at hl; simp only [rel] at h ⊢
  obtain ⟨vs, h1, h2⟩ := h
  exact ⟨vs, h1, z2s hm hn hH ds vs hl h2⟩
 | .rsl nn sz els, v, hl, h => by
  simp only [lowD] at hl; simp only [rel] at h ⊢
  rcases h with h | ⟨a, cap, vs, h1, h2, h3, h4, h5⟩
  ·exact .inl h
  ·exact .inr ⟨a, cap, vs, h1, h2, h3, z2s hm hn hH els vs hl h4, fun i u hu => ⟨(h5 i u hu).1, (h5 i u hu).2.later hm⟩⟩
 | .fsl sz els, v, hl, h => by
  simp only [lowD] at hl; simp only [rel] at h ⊢
  rcases h with h | ⟨a, vs, h1, h3, h4, h5⟩
  ·exact .inl h
  exact .inr ⟨a, vs, h1, h3, z2s hm hn hH els vs hl h4, fun i u hu => ⟨(h5 i u hu).1, (h5 i u hu).2.later hm⟩⟩
 | .rptr d, v, hl, h => by
  simp only [lowD] at hl; simp only [rel] at h ⊢
  obtain ⟨a, u, h1, h2, h3⟩ := h
  exact ⟨a, u, h1, zg4 hm hn hH d u hl h2, h3.later hm⟩
 | .fn f cap, v, hl, h => by
  simp only [lowD] at hl; simp only [rel] at h ⊢
  obtain ⟨vs, h1, h2⟩ := h
  exact ⟨vs, h1, z2s hm hn hH cap vs hl h2⟩
 | .bfn f first, v, hl, h => by
  simp only [lowD] at hl; simp only [rel] at h ⊢
  obtain ⟨vs, h1, h2⟩ := h
  exact ⟨vs, h1, z2s hm hn hH first vs hl h2⟩
 | .any, _, _, _ => by simp [rel]
 | .int _ _, v, _, h => by simpa [rel] using h
 | .bool _, v, _, h => by simpa [rel] using h
 | .str _, v, _, h => by simpa [rel] using h
 | .nil, v, _, h => by simpa [rel] using h
 | .nptr, v, _, h => by simpa [rel] using h
 | .nfun, v, _, h => by simpa [rel] using h
 | .nmp, v, _, h => by simpa [rel] using h
 | .e0, v, _, h => by simpa [rel] using h
 | .osl j k, v, hl, h => by
  simp only [lowD, decide_eq_true_iff] at hl; simp only [rel] at h ⊢
  rw [(hH j hl).1, (hH j hl).2]; exact ⟨by omega, h.2⟩
 | .ptr j k, v, hl, h => by
  simp only [lowD, decide_eq_true_iff] at hl; simp only [rel] at h ⊢
  rw [(hH j hl).1, (hH j hl).2]; exact ⟨by omega, h.2⟩
 | .eptr j k o, v, hl, h => by
  simp only [lowD, decide_eq_true_iff] at hl; simp only [rel] at h ⊢
  rw [(hH j hl).1, (hH j hl).2]; exact ⟨by omega, h.2⟩
 | .mp j, v, hl, h => by
  simp only [lowD, decide_eq_true_iff] at hl; simp only [rel] at h ⊢
  rw [(hH j hl).1, (hH j hl).2]; exact ⟨by omega, h.2⟩
 | .it j, v, hl, h => by
  simp only [lowD, decide_eq_true_iff] at hl; simp only [rel] at h ⊢
  rw [(hH j hl).1, (hH j hl).2]; exact ⟨by omega, h.2⟩
theorem z2s {s s' : RS} {n : Nat} (hm : ∀ a v, s.m a = some v -> s'.m a = some v) (hn : n <= s'.nx) (hH : ∀ id, id < n -> s'.H id = s.H id /\ s'.κ id = s.κ id) :
  ∀ (ds : List D) (vs : List Value), lowD.lowL n ds = true -> relAll s ds vs -> relAll s' ds vs
 | [], vs, _, h => by simpa [relAll] using h
 | d :: ds, vs, hl, h => by
  simp only [lowD.lowL, Bool.and_eq_true] at hl
  simp only [relAll] at h ⊢
  obtain ⟨v, r, h1, h2, h3⟩ := h
  exact ⟨v, r, h1, zg4 hm hn hH d v hl.1 h2, z2s hm hn hH ds r hl.2 h3⟩
end
theorem zg5 {s s' : RS} {n : Nat} {w : World} {v : Value} {o : HObj} (hm : ∀ a v, s.m a = some v -> s'.m a = some v) (hn : n <= s'.nx) (hH : ∀ id, id < n -> s'.H id = s.H id /\ s'.κ id = s.κ id)
  (hl : lowO n o = true) (h : objOK P s w v o) : objOK P s' w v o := by
 cases o with
 | box e cs =>
  obtain ⟨b, vs, h1, h2, h3, h4⟩ := h
  exact ⟨b, vs, h1, h2, z2s hm hn hH _ _ hl h3, h4⟩
 | row e k cs =>
  obtain ⟨vs, h1, h2, h3⟩ := h
  exact ⟨vs, h1, z2s hm hn hH _ _ hl h2, h3⟩
 | map es =>
  simp only [lowO, Bool.and_eq_true] at hl
  obtain ⟨r, ens, c, h1, h2, h3, h4⟩ := h
  exact ⟨r, ens, c, h1, h2, z2s hm hn hH _ _ hl.1 h3, z2s hm hn hH _ _ hl.2 h4.1, h4.2⟩
 | raw o => exact h
def znm (n : Nat) (H : HM) : HM := fun id => if id < n then H id else none
theorem zaz {f : FuncId} {ds : List D} {H : HM} {nx : Nat} {K : D -> HM -> Nat -> Prop} (h : AC P f ds H nx K)
  (O : ∀ r H' nx', K r H' nx' -> lowD nx r = true /\ ∀ id o, id < nx -> H' id = some o -> H id = some o \/ lowO nx o = true) :
  AC P f ds H nx fun r H2 nx2 => nx2 = nx /\ ∃ H' nx', K r H' nx' /\ H2 = znm nx H' := by
 refine ⟨h.1, fun s w vs h1 h2 h3 h4 => (h.2 s w vs h1 h2 h3 h4).mono fun e w' ⟨v, r, s', he, hK, hstep, hRH, hr⟩ => ?_⟩
 subst h1; subst h2
 obtain ⟨hl, hlo⟩ := O _ _ _ hK
 let s2 : RS := { s' with H := znm s.nx s'.H, nx := s.nx }
 have hH : ∀ id, id < s.nx -> s2.H id = s'.H id /\ s2.κ id = s'.κ id := fun id hid => ⟨if_pos hid, rfl⟩
 have hcut : ∀ (d : D) (v : Value), lowD s.nx d = true -> rel s' d v -> rel s2 d v := zg4 (s := s') (s' := s2) (fun _ _ h => h) (Nat.le_refl _) hH
 have hown : ∀ k, owned s2 k -> owned s' k := fun k ⟨id, hid, h5, h6⟩ => by
  rw [(hH id hid).1] at h5
  exact ⟨id, Nat.lt_of_lt_of_le hid hstep.nx, h5, h6⟩
 refine ⟨v, r, s2, he, ⟨rfl, s'.H, s'.nx, hK, rfl⟩, ?_, ?_, hcut r v hl hr⟩
 ·exact ⟨hstep.os, hstep.tape, hstep.output, hstep.size, Nat.le_refl _, hstep.mem, hstep.new, fun id hid => by rw [(hH id hid).1]; exact hstep.objs id hid, hstep.keep, fun k hk' => hstep.own k (hown k hk')⟩
 ·refine ⟨fun a u hm => ⟨(hRH.mem a u hm).1, fun ho => (hRH.mem a u hm).2 (hown _ ho)⟩, fun id o ho => ?_, fun i j hi hj hij hb => ?_, fun g => ?_⟩
  ·have hid : id < s.nx := by
    rcases Nat.lt_or_ge id s.nx with h9 | h9
    ·exact h9
    ·have : s2.H id = none := if_neg (by omega)
     rw [this] at ho; cases ho
   rw [(hH id hid).1] at ho
   refine ⟨hid, zg5 (s := s') (s' := s2) (n := s.nx) (fun _ _ h => h) (Nat.le_refl _) hH ?_ (hRH.obj id o ho).2⟩
   rcases hlo id o hid ho with h9 | h9
   ·exact zg3 (s := s) (h3.obj id o h9).2
   ·exact h9
  ·have lt : ∀ i, s2.H i ≠ none -> i < s.nx /\ s'.H i ≠ none := fun i hi => by
    rcases Nat.lt_or_ge i s.nx with h9 | h9
    ·exact ⟨h9, by rw [<- (hH i h9).1]; exact hi⟩
    ·exact (hi (if_neg (by omega))).elim
   exact hRH.apart i j (lt i hi).2 (lt j hj).2 hij hb
  ·exact hcut _ _ (z6x _ _ (z4s g)) (hRH.glob g)

def Eff {σ : Type} (P : Program) (f : FuncId) (ds : List D) (lo : Nat) (I : σ -> HM -> Prop) (s s' : σ) (r : D) : Prop :=
 ∀ H nx, lo <= nx -> I s H -> AC P f ds H nx fun r' H' nx' => r' = r /\ nx' = nx /\ I s' H' /\ ∀ id, lo <= id -> H' id = H id
structure Low {σ : Type} (lo : Nat) (I : σ -> HM -> Prop) : Prop where
 loc : ∀ s H H', (∀ id, id < lo -> H' id = H id) -> I s H -> I s H'
 low : ∀ s H, I s H -> ∀ id o, id < lo -> H id = some o -> lowO lo o = true
mutual
theorem zg6 {m n : Nat} (h : m <= n) : ∀ d, lowD m d = true -> lowD n d = true
 | .agg ds, hl => by simp only [lowD] at hl ⊢; exact z3a h ds hl
 | .tup ds, hl => by simp only [lowD] at hl ⊢; exact z3a h ds hl
 | .rsl _ _ els, hl => by simp only [lowD] at hl ⊢; exact z3a h els hl
 | .fsl _ els, hl => by simp only [lowD] at hl ⊢; exact z3a h els hl
 | .rptr d, hl => by simp only [lowD] at hl ⊢; exact zg6 h d hl
 | .fn _ cap, hl => by simp only [lowD] at hl ⊢; exact z3a h cap hl
 | .bfn _ first, hl => by simp only [lowD] at hl ⊢; exact z3a h first hl
 | .any, _ => rfl
 | .int _ _, _ => rfl
 | .bool _, _ => rfl
 | .str _, _ => rfl
 | .nil, _ => rfl
 | .nptr, _ => rfl
 | .nfun, _ => rfl
 | .nmp, _ => rfl
 | .e0, _ => rfl
 | .osl .., hl => by simp only [lowD, decide_eq_true_iff] at hl ⊢; omega
 | .ptr .., hl => by simp only [lowD, decide_eq_true_iff] at hl ⊢; omega
 | .eptr .., hl => by simp only [lowD, decide_eq_true_iff] at hl ⊢; omega
 | .mp _, hl => by simp only [lowD, decide_eq_true_iff] at hl ⊢; omega
 | .it _, hl => by simp only [lowD, decide_eq_true_iff] at hl ⊢; omega
theorem z3a {m n : Nat} (h : m <= n) : ∀ ds, lowD.lowL m ds = true -> lowD.lowL n ds = true
 | [], _ => rfl
 | d :: ds, hl => by
  simp only [lowD.lowL, Bool.and_eq_true] at hl ⊢
  exact ⟨zg6 h d hl.1, z3a h ds hl.2⟩
end
theorem zg7 {m n : Nat} (h : m <= n) {o : HObj} (hl : lowO m o = true) : lowO n o = true := by
 cases o with
 | box e cs => exact z3a h cs hl
 | row e k cs => exact z3a h cs hl
 | map es => simp only [lowO, Bool.and_eq_true] at hl ⊢; exact ⟨z3a h _ hl.1, z3a h _ hl.2⟩
 | raw o => rfl
theorem zg8 {σ : Type} {f : FuncId} {ds : List D} {lo : Nat} {I : σ -> HM -> Prop} {s s' : σ} {r : D} (hI : Low lo I) (hr : pureD r = true)
  (h : ∀ H nx, lo <= nx -> I s H -> AC P f ds H nx fun r' H' _ => r' = r /\ I s' H' /\ ∀ id, lo <= id -> id < nx -> H' id = H id) : Eff P f ds lo I s s' r := by
 intro H nx hlo hs
 have h1 := zaz (h H nx hlo hs) (fun r' H' nx' ⟨hr', hi, hs'⟩ => by
  subst hr'
  refine ⟨z6x _ _ hr, fun id o hid ho => ?_⟩
  rcases Nat.lt_or_ge id lo with h9 | h9
  ·exact .inr (zg7 hlo (hI.low s' H' hi id o h9 ho))
  ·exact .inl (by rw [<- hs' id h9 hid]; exact ho))
 refine ⟨h1.1, fun s w vs e1 e2 e3 e4 => (h1.2 s w vs e1 e2 e3 e4).mono fun e w' ⟨v, r1, s1, he, ⟨hnx, H', nx', ⟨hr', hi, hs'⟩, hcut⟩, hstep, hRH, hrel⟩ => ⟨v, r1, s1, he, ⟨hr', hnx, ?_, fun id hid => ?_⟩, hstep, hRH, hrel⟩⟩
 ·refine hI.loc _ H' _ (fun id hid => ?_) hi
  rw [hcut]; exact if_pos (by omega)
 ·rw [hcut]
  unfold znm
  split
  ·rename_i hlt; exact hs' id hid hlt
  ·rename_i hlt
   cases hH : H id with
   | none => rfl
   | some o =>
    have := (e3.obj id o (by rw [e1]; exact hH)).1
    omega
theorem PC.eff {f : FuncId} {ds : List D} {r : D} (h : PC P f ds r) {lo : Nat} {σ : Type} {I : σ -> HM -> Prop} (s : σ) : Eff P f ds lo I s s r := fun H nx _ hs =>
 (h.rc H nx).mono fun _ _ _ ⟨h1, h2, h3⟩ => ⟨h1, h3, by rw [h2]; exact hs, fun id _ => by rw [h2]⟩
theorem zc5 {σ : Type} {lo : Nat} {I : σ -> HM -> Prop} {s s' : σ} {r : D} {n : FuncId} {args cap : List D} {g : List Oper -> (St -> Prop) -> St -> Prop} {rest : List Oper} {K : St -> Prop} {st : St} {dst : Option Nat}
  (h : Eff P n (args ++ cap) lo I s s' r) (hlo : lo <= st.nx) (hs : I s st.H)
  (O : ∀ H', I s' H' -> (∀ id, lo <= id -> H' id = st.H id) -> g rest K ((st.withH H' st.nx).put dst r)) : zfy P (.fn n cap) args g rest K st dst :=
 z3h ((h st.H st.nx hlo hs).mono fun r' H' nx' ⟨h1, h2, h3, h4⟩ => by subst h1; subst h2; exact O H' h3 h4)
theorem zln {st : St} {b : Nat} {e : TypeId} (e' : TypeId) (hb : st.H b = some (.box e [.nil])) :
  SealTo P st { st with H := z10 (z10 st.H st.nx (some (.row e' 0 []))) b (some (.box e [.osl st.nx 0])), nx := st.nx + 1 } := by
 intro N s a w hf
 have hHb : s.H b = some (.box e [.nil]) := by rw [hf.H]; exact hb
 have hne : b ≠ s.nx := by have := (hf.heap.obj b _ hHb).1; omega
 obtain ⟨g1, g2⟩ := z58 hf.heap (Grew.refl w) (.row e' 0 []) (.slice none 0 0) (fun b hb => by cases hb) ⟨[], ⟨by simp, .inl ⟨rfl, rfl⟩⟩, z0k, by intro v hv; cases hv⟩
 have hb2 : (s.add (.slice none 0 0) (.row e' 0 [])).H b = some (.box e [.nil]) := by simp [RS.add, z10, hne, hHb]
 obtain ⟨_, q2⟩ := g2.obj b _ hb2
 obtain ⟨g3, g4⟩ := z72 (w' := w) g2 b _ (.box e [.osl s.nx 0]) ((s.add (.slice none 0 0) (.row e' 0 [])).κ b) hb2 rfl rfl rfl (Nat.le_refl _) (fun _ _ _ => rfl) (.inr ⟨_, rfl, rfl⟩) (fun b hb => .inl hb) (fun hl => by
  obtain ⟨b', vs, u1, u2, u3, u4⟩ := q2
  refine ⟨b', vs, u1, u2, ?_, u4⟩
  simp only [relAll, rel] at u3
  obtain ⟨v, r, rfl, rfl, rfl⟩ := u3
  refine z0d ?_ z0k
  simp only [rel]
  refine ⟨by simp [RS.set, RS.add], ⟨_, _, rfl⟩, fun e2 k cs hH => ⟨Nat.zero_le _, fun _ => ?_⟩⟩
  simp only [RS.set, RS.add]
  rw [if_neg (fun h => hne h.symm)]
  simp)
 refine ⟨_, ⟨?_, ?_, hf.size, hf.defers, fun i => rel.later (g1.trans g3).later _ _ (hf.tmps i), g4⟩, g1.trans g3⟩
 ·simp only [RS.set, RS.add, hf.H, hf.nx]
 ·simp only [RS.set, RS.add, hf.nx]
theorem z3b {id : Nat} {l : List Oper} {b : Code} {own : List Nat} {Q : Exit -> St -> Prop} {st : St} (h : ∀ K : St -> Prop, (∀ st st', SealTo P st st' -> awp P own b Q st' -> K st) -> z1v P own (l.map (·.dst)) l K st) : awp P own (.seq (.region id l.toArray false) b) Q st :=
 ⟨fun h => (by cases h), fun _ => h _ fun _ st' hs hb => ⟨st', hs, hb⟩⟩
theorem zpg {σ : Type} {lo : Nat} (objs : σ -> List HObj) (hl : ∀ s, (objs s).length = lo) (ho : ∀ s, ∀ o ∈ objs s, lowO lo o = true) : Low lo fun s H => ∀ j, j < lo -> H j = (objs s)[j]? :=
 ⟨fun s H H' h hs j hj => (h j hj).trans (hs j hj), fun s H hs id o hid hH => by
  rw [hs id hid] at hH
  exact ho s o (List.mem_of_getElem? hH)⟩
end Go.Proofs.YtfechgagcgbldaaGreatDoor.Abs
namespace Go.Proofs.YtfechgagcgbldaaGreatDoor.Abs
open Go.RowKit
variable {P : Program}
theorem zph {s : RS} {w : World} (hRH : RH P s w) {H' : HM} (O : ∀ id, id < s.nx -> H' id = s.H id) : znm s.nx H' = s.H := by
 funext id
 unfold znm
 split
 ·rename_i hlt; exact O id hlt
 ·rename_i hlt
  cases hH : s.H id with
  | none => rfl
  | some o => have := (hRH.obj id o hH).1; omega
theorem RC_keep {f : FuncId} {ds : List D} {H : HM} {nx : Nat} {r : D} (hr : pureD r = true)
  (h : AC P f ds H nx fun r' H' _ => r' = r /\ ∀ id, id < nx -> H' id = H id) : RC P f ds H nx r := by
 have h1 := zaz h (fun r' H' nx' ⟨hr', O⟩ => by
  subst hr'
  exact ⟨z6x _ _ hr, fun id o hid ho => .inl (by rw [<- O id hid]; exact ho)⟩)
 refine ⟨h1.1, fun s w vs e1 e2 e3 e4 => (h1.2 s w vs e1 e2 e3 e4).mono fun e w' ⟨v, r1, s1, he, ⟨hnx, H', nx', ⟨hr', O⟩, hcut⟩, hstep, hRH, hrel⟩ => ⟨v, r1, s1, he, ⟨hr', ?_, hnx⟩, hstep, hRH, hrel⟩⟩
 subst e1; subst e2
 rw [hcut]; exact zph e3 O
theorem AC_upd {f : FuncId} {ds : List D} {H : HM} {nx i : Nat} {r : D} {o' : HObj} (hr : pureD r = true) (ho : lowO nx o' = true) (hi : i < nx)
  (h : AC P f ds H nx fun r' H' _ => r' = r /\ H' i = some o' /\ ∀ id, id < nx -> id ≠ i -> H' id = H id) : AC P f ds H nx fun r' H' nx' => r' = r /\ H' = z10 H i (some o') /\ nx' = nx := by
 have h1 := zaz h (fun r' H' nx' ⟨hr', hu, O⟩ => by
  subst hr'
  refine ⟨z6x _ _ hr, fun id o hid ho2 => ?_⟩
  by_cases e : id = i
  ·subst e; rw [hu] at ho2; cases ho2; exact .inr ho
  ·exact .inl (by rw [<- O id hid e]; exact ho2))
 refine ⟨h1.1, fun s w vs e1 e2 e3 e4 => (h1.2 s w vs e1 e2 e3 e4).mono fun e w' ⟨v, r1, s1, he, ⟨hnx, H', nx', ⟨hr', hu, O⟩, hcut⟩, hstep, hRH, hrel⟩ => ⟨v, r1, s1, he, ⟨hr', ?_, hnx⟩, hstep, hRH, hrel⟩⟩
 subst e1; subst e2
 rw [hcut]
 funext id
 unfold znm z10
 by_cases e : id = i
 ·subst e; rw [if_pos hi, if_pos rfl]; exact hu
 ·rw [if_neg e]
  split
  ·rename_i hlt; exact O id hlt e
  ·rename_i hlt
   cases hH : s.H id with
   | none => rfl
   | some o => have := (e3.obj id o hH).1; omega
theorem z09 {α : Type} {i j : Nat} {a b : α} (h : ¬ i = j) : (bif i == j then a else b) = b := by
 rw [show (i == j) = false from by simpa using h]; rfl
def zje (s3 : RS) (n k : Nat) (σ : Nat -> Nat) : RS :=
 {m := s3.m
  κ := fun i => if n <= i /\ i < n + k then s3.κ (σ (i - n)) else s3.κ i
  H := fun i => if n <= i /\ i < n + k then s3.H (σ (i - n)) else if i < n then s3.H i else none
  nx := n + k }
theorem zwv {f : FuncId} {ds : List D} {H : HM} {nx : Nat} {objs : List HObj} {r : D} (hr : okD objs.length r = true) (ho : ∀ o ∈ objs, z77 o = true)
  (h : AC P f ds H nx fun d H' _ => (∀ id, id < nx -> H' id = H id) /\ ∃ σ : Nat -> Nat, (∀ i j, i < objs.length -> j < objs.length -> σ i = σ j -> i = j) /\ (∀ j, j < objs.length -> nx <= σ j) /\ d = renD σ r /\ ∀ j, j < objs.length -> H' (σ j) = objs[j]?) :
  AC P f ds H nx fun r' H' nx' => r' = renD (fun j => nx + j) r /\ H' = zjq H nx objs /\ nx' = nx + objs.length := by
 refine ⟨h.1, fun s w vs hH hnx hRH hrel => ?_⟩
 subst hH; subst hnx
 refine (h.2 s w vs rfl rfl hRH hrel).mono fun e w' ⟨v, d, s3, he, ⟨hkeep, σ, hinj, hge, V, hobj⟩, hstep, hRH3, hres⟩ => ?_
 subst V
 let s' := zje s3 s.nx objs.length σ
 have hHnew : ∀ j, j < objs.length -> s'.H (s.nx + j) = s3.H (σ j) /\ s'.κ (s.nx + j) = s3.κ (σ j) := by
  intro j hj
  show (zje s3 s.nx objs.length σ).H (s.nx + j) = _ /\ (zje s3 s.nx objs.length σ).κ (s.nx + j) = _
  simp only [zje]
  rw [if_pos (by omega), if_pos (by omega), Nat.add_sub_cancel_left]
  exact ⟨rfl, rfl⟩
 have hHlow : ∀ i, i < s.nx -> s'.H i = s3.H i /\ s'.κ i = s3.κ i := by
  intro i hi
  have h1 : ¬ (s.nx <= i /\ i < s.nx + objs.length) := by omega
  show (zje s3 s.nx objs.length σ).H i = _ /\ (zje s3 s.nx objs.length σ).κ i = _
  simp only [zje, if_neg h1, if_pos hi]
  exact ⟨trivial, trivial⟩
 have hHbig : ∀ i, s.nx + objs.length <= i -> s'.H i = none := by
  intro i hi
  show (zje s3 s.nx objs.length σ).H i = _
  simp only [zje]
  rw [if_neg (by omega), if_neg (by omega)]
 -- an object of s' is one of s3
 obtain ⟨τ, hτ⟩ : ∃ τ : Nat -> Nat, ∀ i, s'.H i ≠ none -> s'.H i = s3.H (τ i) /\ s'.κ i = s3.κ (τ i) /\ (i < s.nx /\ τ i = i \/ ∃ j, j < objs.length /\ i = s.nx + j /\ τ i = σ j) := by
  refine ⟨fun i => if i < s.nx then i else σ (i - s.nx), fun i hi => ?_⟩
  by_cases h1 : i < s.nx
  ·simp only [if_pos h1]
   exact ⟨(hHlow i h1).1, (hHlow i h1).2, .inl ⟨h1, trivial⟩⟩
  ·have h2 : i < s.nx + objs.length := by
    rcases Nat.lt_or_ge i (s.nx + objs.length) with h9 | h9
    ·exact h9
    ·exact (hi (hHbig i h9)).elim
   obtain ⟨j, rfl⟩ : ∃ j, i = s.nx + j := ⟨i - s.nx, by omega⟩
   simp only [if_neg h1, Nat.add_sub_cancel_left]
   exact ⟨(hHnew j (by omega)).1, (hHnew j (by omega)).2, .inr ⟨j, by omega, rfl, rfl⟩⟩
 have hown : ∀ k, owned s' k -> owned s3 k := by
  rintro k ⟨id, hid, hH, hb⟩
  obtain ⟨e1, e2, _⟩ := hτ id hH
  rw [e1] at hH; rw [e2] at hb
  exact ⟨τ id, hRH3.fresh hH, hH, hb⟩
 have hn : s.nx <= s'.nx := by show s.nx <= s.nx + _; omega
 have hfun : s'.H = zjq s.H s.nx objs := by
  funext i
  rw [zg2]
  by_cases hi : s.nx <= i /\ i < s.nx + objs.length
  ·obtain ⟨j, rfl⟩ : ∃ j, i = s.nx + j := ⟨i - s.nx, by omega⟩
   have hj : j < objs.length := by omega
   rw [if_pos hi, (hHnew j hj).1, hobj j hj, Nat.add_sub_cancel_left]
  ·rw [if_neg hi]
   by_cases h1 : i < s.nx
   ·rw [(hHlow i h1).1, hkeep i h1]
   ·rw [hHbig i (by omega)]
    cases hH : s.H i with
    | none => rfl
    | some o => have := (hRH.obj i o hH).1; omega
 refine ⟨v, renD (fun j => s.nx + j) r, s', he, ⟨rfl, hfun, rfl⟩, ?_, ?_, znl (s := s3) (s' := s') (fun _ _ h => h) (fun j hj => by show s.nx + j < s.nx + _; omega) hHnew r v hr hres⟩
 ·exact ⟨hstep.os, hstep.tape, hstep.output, hstep.size, hn, hstep.mem, hstep.new, fun id hid => by rw [(hHlow id hid).1, (hHlow id hid).2]; exact hstep.objs id hid, hstep.keep, fun k O => hstep.own k (hown k O)⟩
 ·refine ⟨fun a u hm => ⟨(hRH3.mem a u hm).1, fun ho => (hRH3.mem a u hm).2 (hown _ ho)⟩, fun id o hido => ?_, fun i j hi hj hij hb => ?_, fun g => zg4 (s := s3) (s' := s') (n := s.nx) (fun _ _ h => h) hn hHlow _ _ (z6x _ _ (z4s g)) (hRH3.glob g)⟩
  ·obtain ⟨e1, e2, hc⟩ := hτ id (by rw [hido]; simp)
   rw [e1] at hido
   rw [e2]
   obtain ⟨g1, g2⟩ := hRH3.obj _ o hido
   rcases hc with ⟨h1, h2⟩ | ⟨j, hj, h1, h2⟩
   ·rw [h2] at hido g2 ⊢
    refine ⟨by omega, zg5 (s := s3) (s' := s') (n := s.nx) (fun _ _ h => h) hn hHlow ?_ g2⟩
    rw [hkeep id h1] at hido
    exact zg3 (s := s) (hRH.obj id o hido).2
   ·refine ⟨by show id < s.nx + _; omega, objOK.pure (s := s3) (s' := s') (fun _ _ h => h) (ho o ?_) g2⟩
    rw [h2, hobj j hj] at hido
    exact List.mem_of_getElem? hido
  ·obtain ⟨a1, a2, a3⟩ := hτ i hi
   obtain ⟨b1, b2, b3⟩ := hτ j hj
   rw [a1] at hi; rw [b1] at hj; rw [a2] at hb ⊢; rw [b2]
   refine hRH3.apart _ _ hi hj (fun e => hij ?_) hb
   rcases a3 with ⟨h1, h2⟩ | ⟨k, O, h1, h2⟩ <;> rcases b3 with ⟨h3, h4⟩ | ⟨l, hl, h3, h4⟩
   ·rw [h2, h4] at e; exact e
   ·have := hge l hl; omega
   ·have := hge k O; omega
   ·have := hinj k l O hl (by rw [<- h2, <- h4]; exact e); omega
theorem z06 : (∀ (p : Prop) [Decidable p], (decide p = true) = p) /\ (∀ (p : Prop) [Decidable p], (decide p = false) = ¬p) /\ (∀ p : Prop, (¬¬p) ↔ p) /\ (∀ (α : Type) [BEq α] [LawfulBEq α] (a b : α), (a == b) = true ↔ a = b) /\ (∀ (α : Type) [BEq α] [LawfulBEq α] (a b : α), (a == b) = false ↔ a ≠ b) /\ (∀ (α : Type) [BEq α] [LawfulBEq α] (a b : α), (a != b) = true ↔ a ≠ b) /\ (∀ (α : Type) (a b : α), (a ≠ b) = ¬(a = b)) /\ (∀ b : Bool, ((!b) = true) = (b = false)) /\ (∀ b : Bool, ((!b) = false) = (b = true)) /\ (∀ a b : Bool, ((a && b) = true) = (a = true /\ b = true)) /\ (∀ a b : Bool, ((a || b) = true) = (a = true \/ b = true)) /\ (∀ a b : Bool, ((a && b) = false) = (a = true -> b = false)) /\ (∀ a b : Bool, ((a || b) = false) = (a = false /\ b = false)) /\ (∀ b : Bool, (¬(b = true)) = (b = false)) /\ (∀ b : Bool, (¬(b = false)) = (b = true)) :=
 ⟨fun p _ => decide_eq_true_eq, fun p _ => by simp, fun p => Classical.not_not, fun α _ _ a b => beq_iff_eq, fun α _ _ a b => beq_eq_false_iff_ne, fun α _ _ a b => bne_iff_ne, fun α a b => rfl, fun b => by cases b <;> simp, fun b => by cases b <;> simp, fun a b => by cases a <;> cases b <;> simp, fun a b => by cases a <;> cases b <;> simp, fun a b => by cases a <;> cases b <;> simp, fun a b => by cases a <;> cases b <;> simp, fun b => by cases b <;> simp, fun b => by cases b <;> simp⟩
/-- A step of a walk that needs nothing. -/
class Nx (A : Prop) (B : outParam Prop) : Prop where
  h : B -> A
theorem nxt {A B : Prop} [i : Nx A B] (h : B) : A := i.h h
section
variable {P : Program} {own : List Nat} {Q Q' : Exit -> St -> Prop} {st : St} {a b c : Code} {k : St -> Prop} {id n : Nat} {I : Nat -> St -> Prop}
instance : Nx (awp P own (.seq (.seq a b) c) Q st) (awp P own (.seq a (.seq b c)) Q st) := ⟨zqj⟩
instance : Nx (awp P own (.seq (.block id c) b) Q st) (awp P own c (znd id (zm6 (fun st => ∃ st', SealTo P st st' /\ awp P own b Q st') Q)) st) := ⟨zqa⟩
instance : Nx (awp P own (.block id c) Q st) (awp P own c (znd id Q) st) := ⟨zqi⟩
instance : Nx (awp P own (.seq .skip b) Q st) (awp P own b Q st) := ⟨zqb⟩
instance : Nx (awp P own (.seq .ret b) Q st) (Q .ret st) := ⟨zqg⟩
instance : Nx (awp P own (.seq (.exit id) b) Q st) (Q (.exit id) st) := ⟨zqc⟩
instance : Nx (awp P own .skip Q st) (Q .normal st) := ⟨zqk⟩
instance : Nx (awp P own (.exit id) Q st) (Q (.exit id) st) := ⟨zql⟩
instance : Nx (awp P own .ret Q st) (Q .ret st) := ⟨zqn⟩
instance : Nx (zm6 (fun st => ∃ st', SealTo P st st' /\ awp P own b Q st') Q' .normal st) (awp P own b Q st) := ⟨zqv⟩
instance : Nx (zm6 k Q .ret st) (Q .ret st) := ⟨zqx⟩
instance : Nx (znd id Q .normal st) (Q .normal st) := ⟨zqy⟩
instance : Nx (znd id Q .ret st) (Q .ret st) := ⟨zqzb⟩
instance : Nx (zne I n Q (.exit id) st) (Q (.exit id) st) := ⟨zqp⟩
instance : Nx (zne I n Q .ret st) (Q .ret st) := ⟨zqo⟩
end
end Go.Proofs.YtfechgagcgbldaaGreatDoor.Abs
namespace Go.Proofs.YtfechgagcgbldaaGreatDoor.Abs
open Go.RowKit Go.ChangeShapes

def elD (ag : Bool) (p : List D) : D := if ag = true then .agg p else (p[0]?).getD .any
def elV (ag : Bool) (p : List Value) : Value := if ag = true then .agg p.toArray else (p[0]?).getD undef
def zij (T : TypeId -> List D -> Prop) : List Field -> List D -> Prop
 | [], ds => ds = []
 | f :: fs, ds => ∃ d1 d2, ds = d1 ++ d2 /\ T f.type d1 /\ zij T fs d2
def z3z (P : Program) : Nat -> TypeId -> List D -> Prop
 | 0, _, _ => False
 | n + 1, t, ds => match P.underlying t with
  | some .bool => ∃ b, ds = [.bool b]
  | some (.int k) => ∃ i, ds = [.int k i] /\ (Lit.int k i).wf = true
  | some .string => ∃ s : ByteArray, ds = [.str s] /\ s.size <= maxLen
  | some (.slice e) => ∃ parts : List (List D), parts.length <= maxLen /\ (∀ p ∈ parts, z3z P n e p) /\ ds = [.rsl false (z01 P e) (parts.map (elD (z05 P e)))]
  | some (.struct fs) => zij (z3z P n) fs.toList ds
  | _ => False
def zk7 (P : Program) (n : Nat) : List Field -> Nat -> Bool
 | [], off => off == n
 | f :: fs, off => f.offset == off && zk7 P n fs (off + P.cellsOf f.type)
def zik (P : Program) (S : List TypeId) : Bool :=
 S.all fun t => match P.underlying t with
  | some .bool | some (.int _) | some .string => true
  | some (.slice e) => S.any fun u => u == e
  | some (.struct fs) => zk7 P (P.cellsOf t) fs.toList 0 && fs.toList.all fun f => S.any fun u => u == f.type
  | _ => false

section
variable {H : Type} {enc : TypeId × Value -> H} {P : Program} {W : World} {base : Nat} {spare : Nat -> Bool} {held : Bool}
theorem zu7 {S : List TypeId} {e : TypeId} (h : (S.any fun u => u == e) = true) : e ∈ S := by
 obtain ⟨x, hx, he⟩ := List.any_eq_true.1 h
 rw [<- beq_iff_eq.1 he]; exact hx
theorem z5e {d : D} {v : Value} (h : rel (z7u W) d v) (h1 : v.oneCell' = true) : relAll (z7u W) [d] [v] /\ z6i [v] :=
 ⟨z0d h z0k, fun u hu => by simp at hu; subst hu; exact h1⟩
theorem zr2 {S : List TypeId} (hS : zik P S = true) : ∀ (n : Nat) (t : TypeId) (cs : List Value) (x : DataW H × List MemPlace), t ∈ S -> DataW.trod enc P W base spare held n t cs = some x ->
  ∃ ds, relAll (z7u W) ds cs /\ z6i cs /\ z3z P n t ds /\ (z05 P t = false -> ∃ c d, cs = [c] /\ ds = [d]) := by
 intro n
 induction n with
 | zero => intro t cs x _ h; simp [DataW.trod] at h
 | succ n ih =>
  intro t cs x ht h
  have hc := List.all_eq_true.1 hS t ht
  cases hu : P.underlying t with
  | none => rw [hu] at hc; cases hc
  | some td =>
   rw [hu] at hc
   cases td <;> first | (cases hc; done) | skip
   case bool =>
    obtain ⟨b, rfl, _⟩ := DataW.trod_bool hu h
    obtain ⟨h1, h2⟩ := z5e (W := W) (d := .bool b) (v := .bool b) (by simp [rel]) rfl
    exact ⟨_, h1, h2, by simp only [z3z, hu]; exact ⟨b, rfl⟩, fun _ => ⟨_, _, rfl, rfl⟩⟩
   case int k =>
    obtain ⟨i, rfl, _, hw⟩ := DataW.trod_int hu h
    obtain ⟨h1, h2⟩ := z5e (W := W) (d := .int k i) (v := .int k i) (by simp [rel]) rfl
    exact ⟨_, h1, h2, by simp only [z3z, hu]; exact ⟨i, rfl, hw⟩, fun _ => ⟨_, _, rfl, rfl⟩⟩
   case string =>
    obtain ⟨s, rfl, _, hw⟩ := DataW.trod_string hu h
    obtain ⟨h1, h2⟩ := z5e (W := W) (d := .str s) (v := .string s) (by simp [rel]) rfl
    exact ⟨_, h1, h2, by simp only [z3z, hu]; exact ⟨s, rfl, hw⟩, fun _ => ⟨_, _, rfl, rfl⟩⟩
   case slice e =>
    have he := zu7 hc
    rcases DataW.trod_slice hu h with ⟨rfl, _⟩ | ⟨a, len, cap, elems, rest, m, hm, rfl, _, _, hl, hcm, hlen, hel, _⟩
    ·obtain ⟨h1, h2⟩ := z5e (W := W) (d := .rsl false (z01 P e) []) (v := .slice none 0 0) (by simp only [rel]; exact .inl ⟨trivial, trivial, trivial⟩) rfl
     exact ⟨_, h1, h2, by simp only [z3z, hu]; exact ⟨[], by simp, by simp, rfl⟩, fun _ => ⟨_, _, rfl, rfl⟩⟩
    ·cases hm
     have each : ∀ i : _root_.Fin len, ∃ p : List Value × List D, W.cells? base (a.add (i * P.cellsOf e)) (P.cellsOf e) = some p.1 /\ relAll (z7u W) p.2 p.1 /\ z6i p.1 /\ z3z P n e p.2 /\ (z05 P e = false -> ∃ c d, p.1 = [c] /\ p.2 = [d]) := by
      intro i
      have hi := hel i i.2
      rw [List.getElem?_eq_getElem (by omega), Option.bind_eq_some_iff] at hi
      obtain ⟨cs', h1, h2⟩ := hi
      obtain ⟨ds, k1, k2, k3, k4⟩ := ih e cs' _ he h2
      exact ⟨(cs', ds), h1, k1, k2, k3, k4⟩
     obtain ⟨f, hf⟩ := Classical.axiomOfChoice each
     have hag : ∀ i, rel (z7u W) (elD (z05 P e) (f i).2) (elV (z05 P e) (f i).1) /\ (elV (z05 P e) (f i).1).cells.toList = (f i).1 := by
      intro i
      obtain ⟨h1, h2, h3, h4, h5⟩ := hf i
      cases hag : z05 P e with
      | true =>
       simp only [elD, elV, if_true, Value.cells]
       exact ⟨by simp only [rel]; exact ⟨_, rfl, h2, h3⟩, trivial⟩
      | false =>
       obtain ⟨c, d, hc1, hd1⟩ := h5 hag
       rw [hc1, hd1] at h2
       rw [hc1] at h3
       simp only [elD, elV, hc1, hd1, Bool.false_eq_true, if_false, List.getElem?_cons_zero, Option.getD_some]
       simp only [relAll] at h2
       obtain ⟨v, r, hv, hrel, hr⟩ := h2
       simp only [List.cons.injEq] at hv
       obtain ⟨rfl, rfl⟩ := hv
       refine ⟨hrel, ?_⟩
       rw [z27 (h3 c (by simp))]
     have hsz : z01 P e = P.cellsOf e := rfl
     obtain ⟨h1, h2⟩ := z5e (W := W) (d := .rsl false (z01 P e) ((List.ofFn fun i => (f i).2).map (elD (z05 P e)))) (v := .slice (some a) len cap) (by
      simp only [rel]
      refine .inr ⟨a, cap, List.ofFn fun i => elV (z05 P e) (f i).1, by simp, by simpa using hl, hcm, z47 (by simp) (fun i d v V hv => ?_), fun i v hv => ?_⟩
      ·simp only [List.getElem?_map, List.getElem?_ofFn] at V hv
       split at hv
       ·rename_i hi
        rw [dif_pos hi] at V
        simp only [Option.map_some, Option.some.injEq] at V hv
        subst V; subst hv
        exact (hag ⟨i, hi⟩).1
       ·cases hv
      ·simp only [List.getElem?_ofFn] at hv
       split at hv
       ·rename_i hi
        simp only [Option.some.injEq] at hv
        subst hv
        obtain ⟨g1, _⟩ := hf ⟨i, hi⟩
        obtain ⟨_, g2, g3⟩ := World.cells?_some g1
        have g4 := (hag ⟨i, hi⟩).2
        refine ⟨by rw [<- Array.length_toList, g4, g2, hsz], fun j c hj => ?_⟩
        rw [g4] at hj
        have hjl : j < P.cellsOf e := by rw [<- g2]; exact (List.getElem?_eq_some_iff.1 hj).1
        have := g3 j hjl
        rw [hj] at this
        exact this
       ·cases hv) rfl
     refine ⟨_, h1, h2, ?_, fun _ => ⟨_, _, rfl, rfl⟩⟩
     simp only [z3z, hu]
     refine ⟨List.ofFn fun i => (f i).2, by simp; omega, fun p hp => ?_, rfl⟩
     obtain ⟨i, rfl⟩ := List.mem_ofFn.1 hp
     exact (hf i).2.2.2.1
   case struct fs =>
    obtain ⟨xs, m, hm, _, hcl, hxl, hxf⟩ := DataW.trod_struct hu h
    cases hm
    simp only [Bool.and_eq_true] at hc
    obtain ⟨htile, hfs⟩ := hc
    have key : ∀ (l : List Field) (off k : Nat), (∀ i, l[i]? = fs[k + i]?) -> zk7 P (P.cellsOf t) l off = true -> ∃ ds, relAll (z7u W) ds (cs.drop off) /\ z6i (cs.drop off) /\ zij (z3z P n) l ds := by
     intro l
     induction l with
     | nil =>
      intro off k _ ht'
      simp only [zk7, beq_iff_eq] at ht'
      subst ht'
      rw [<- hcl, List.drop_length]
      exact ⟨[], z0k, fun v hv => by simp at hv, rfl⟩
     | cons g l ihl =>
      intro off k hl ht'
      simp only [zk7, Bool.and_eq_true, beq_iff_eq] at ht'
      obtain ⟨rfl, ht'⟩ := ht'
      have hg : fs[k]? = some g := by have := hl 0; simpa using this.symm
      have hlt : k < fs.size := (Array.getElem?_eq_some_iff.1 hg).1
      have hx := hxf k g hg
      rw [List.getElem?_eq_getElem (by omega)] at hx
      have hmem : g ∈ fs.toList := by
       obtain ⟨h1, h2⟩ := Array.getElem?_eq_some_iff.1 hg
       rw [<- h2]; exact Array.mem_toList_iff.2 (Array.getElem_mem h1)
      obtain ⟨d1, r1, r2, r3, _⟩ := ih g.type _ _ (zu7 (List.all_eq_true.1 hfs g hmem)) hx
      obtain ⟨d2, q1, q2, q3⟩ := ihl (g.offset + P.cellsOf g.type) (k + 1) (fun i => by have := hl (i + 1); simpa [Nat.add_assoc, Nat.add_comm 1 i] using this) ht'
      have hsp : cs.drop g.offset = (cs.drop g.offset).take (P.cellsOf g.type) ++ cs.drop (g.offset + P.cellsOf g.type) := by
       rw [<- List.drop_drop, List.take_append_drop]
      rw [hsp]
      exact ⟨d1 ++ d2, z1y r1 q1, fun v hv => by
       rcases List.mem_append.1 hv with hv | hv
       ·exact r2 v hv
       ·exact q2 v hv, d1, d2, rfl, r3, q3⟩
    obtain ⟨ds, h1, h2, h3⟩ := key fs.toList 0 0 (fun i => by simp) htile
    rw [List.drop_zero] at h1 h2
    refine ⟨ds, h1, h2, by simp only [z3z, hu]; exact h3, fun hag => ?_⟩
    simp only [z05, hu] at hag
    cases hag
theorem zu8 {S : List TypeId} (hS : zik P S = true) {t : TypeId} {cs : Array Value} {d : DataW H} {p : List MemPlace} (ht : t ∈ S) (h : DataW.Trod enc P W base spare held t (.agg cs) d p) :
  ∃ n ds, z3z P n t ds /\ rel (z7u W) (.agg ds) (.agg cs) := by
 obtain ⟨n, h⟩ := h
 obtain ⟨ds, h1, h2, h3, _⟩ := zr2 hS n t _ _ ht h
 refine ⟨n, ds, h3, ?_⟩
 simp only [rel]
 exact ⟨cs.toList, by simp, by simpa [Value.cells] using h1, by simpa [Value.cells] using h2⟩
end
section
variable {P : Program} {n : Nat} {t e : TypeId} {d : D} {ds : List D}
theorem wf_i64 {i : Int} (h : (Lit.int .i64 i).wf = true) : -9223372036854775808 <= i /\ i <= 9223372036854775807 := by
 simp only [Lit.wf, Bool.and_eq_true, decide_eq_true_eq] at h
 exact h
theorem z3t (hu : P.underlying t = some (.int .i64)) (h : z3z P n t ds) : ∃ i : Int, ds = [.int .i64 i] /\ -9223372036854775808 <= i /\ i <= 9223372036854775807 := by
 cases n with
 | zero => exact h.elim
 | succ n =>
  simp only [z3z, hu] at h
  obtain ⟨i, h1, h2⟩ := h
  exact ⟨i, h1, wf_i64 h2⟩
theorem z8r (hu : P.underlying t = some .string) (h : z3z P n t ds) : ∃ s : ByteArray, ds = [.str s] /\ s.size <= maxLen := by
 cases n with
 | zero => exact h.elim
 | succ n => simpa only [z3z, hu] using h
theorem z80 (hu : P.underlying t = some (.slice e)) (h : z3z P n t ds) : ∃ (m : Nat) (parts : List (List D)), n = m + 1 /\ parts.length <= maxLen /\ (∀ p ∈ parts, z3z P m e p) /\ ds = [.rsl false (z01 P e) (parts.map (elD (z05 P e)))] := by
 cases n with
 | zero => exact h.elim
 | succ n =>
  simp only [z3z, hu] at h
  obtain ⟨parts, h1, h2, h3⟩ := h
  exact ⟨n, parts, rfl, h1, h2, h3⟩
theorem z43 {fs : Array Field} (hu : P.underlying t = some (.struct fs)) (h : z3z P n t ds) : ∃ m, n = m + 1 /\ zij (z3z P m) fs.toList ds := by
 cases n with
 | zero => exact h.elim
 | succ n => exact ⟨n, rfl, by simpa only [z3z, hu] using h⟩
theorem z46 {α : Type} {good : List D -> Prop} {f : α -> List D} {q : α -> Prop} (h : ∀ p, good p -> ∃ x, p = f x /\ q x) : ∀ (parts : List (List D)), (∀ p ∈ parts, good p) -> ∃ l : List α, parts = l.map f /\ (∀ x ∈ l, q x)
 | [], _ => ⟨[], rfl, by simp⟩
 | p :: parts, hp => by
  obtain ⟨x, hx, hq⟩ := h p (hp p (by simp))
  obtain ⟨l, hl, hq'⟩ := z46 h parts (fun p' hp' => hp p' (by simp [hp']))
  exact ⟨x :: l, by simp [hx, hl], by simp; exact ⟨hq, hq'⟩⟩
end
end Go.Proofs.YtfechgagcgbldaaGreatDoor.Abs
namespace Go.Proofs.YtfechgagcgbldaaGreatDoor.Facts
open Go.Proofs.YtfechgagcgbldaaGreatDoor.Abs
@[go_sem] theorem ty1 : z05 Tryz.prog 1 = false /\ z0o Tryz.prog 1 = true /\ z0v Tryz.prog 1 = none /\ z4m Tryz.prog 1 = none /\ z4t Tryz.prog 1 = none /\ z4k Tryz.prog 1 = false /\ z1x Tryz.prog 1 = false /\ z3m Tryz.prog 1 = none /\ z01 Tryz.prog 1 = 1 /\ z0m Tryz.prog 1 = 8 /\ z12 Tryz.prog 1 = some [D.nfun] /\ z0f Tryz.prog 1 = true := by refine ⟨?_, ?_, ?_, ?_, ?_, ?_, ?_, ?_, ?_, ?_, ?_, ?_⟩ <;> kernel_rfl
@[go_sem] theorem ty2 : z05 Tryz.prog 2 = false /\ z0o Tryz.prog 2 = true /\ z0v Tryz.prog 2 = none /\ z4m Tryz.prog 2 = none /\ z4t Tryz.prog 2 = some .i64 /\ z4k Tryz.prog 2 = false /\ z1x Tryz.prog 2 = false /\ z3m Tryz.prog 2 = none /\ z01 Tryz.prog 2 = 1 /\ z0m Tryz.prog 2 = 8 /\ z12 Tryz.prog 2 = some [D.int .i64 0] /\ z0f Tryz.prog 2 = true := by refine ⟨?_, ?_, ?_, ?_, ?_, ?_, ?_, ?_, ?_, ?_, ?_, ?_⟩ <;> kernel_rfl
@[go_sem] theorem ty3 : z05 Tryz.prog 3 = false /\ z0o Tryz.prog 3 = true /\ z0v Tryz.prog 3 = none /\ z4m Tryz.prog 3 = none /\ z4t Tryz.prog 3 = some .i64 /\ z4k Tryz.prog 3 = false /\ z1x Tryz.prog 3 = false /\ z3m Tryz.prog 3 = none /\ z01 Tryz.prog 3 = 1 /\ z0m Tryz.prog 3 = 8 /\ z12 Tryz.prog 3 = some [D.int .i64 0] /\ z0f Tryz.prog 3 = true := by refine ⟨?_, ?_, ?_, ?_, ?_, ?_, ?_, ?_, ?_, ?_, ?_, ?_⟩ <;> kernel_rfl
theorem z39 : z05 Tryz.prog 3 = false := ty3.1
theorem z74 : z0o Tryz.prog 3 = true := ty3.2.1
theorem z6t : z01 Tryz.prog 3 = 1 := ty3.2.2.2.2.2.2.2.2.1
@[go_sem] theorem ty4 : z05 Tryz.prog 4 = false /\ z0o Tryz.prog 4 = true /\ z0v Tryz.prog 4 = none /\ z4m Tryz.prog 4 = none /\ z4t Tryz.prog 4 = none /\ z4k Tryz.prog 4 = false /\ z1x Tryz.prog 4 = true /\ z3m Tryz.prog 4 = none /\ z01 Tryz.prog 4 = 1 /\ z0m Tryz.prog 4 = 1 /\ z12 Tryz.prog 4 = some [D.bool false] /\ z0f Tryz.prog 4 = true := by refine ⟨?_, ?_, ?_, ?_, ?_, ?_, ?_, ?_, ?_, ?_, ?_, ?_⟩ <;> kernel_rfl
@[go_sem] theorem ty5 : z05 Tryz.prog 5 = false /\ z0o Tryz.prog 5 = true /\ z0v Tryz.prog 5 = none /\ z4m Tryz.prog 5 = none /\ z4t Tryz.prog 5 = some .u8 /\ z4k Tryz.prog 5 = false /\ z1x Tryz.prog 5 = false /\ z3m Tryz.prog 5 = none /\ z01 Tryz.prog 5 = 1 /\ z0m Tryz.prog 5 = 1 /\ z12 Tryz.prog 5 = some [D.int .u8 0] /\ z0f Tryz.prog 5 = true := by refine ⟨?_, ?_, ?_, ?_, ?_, ?_, ?_, ?_, ?_, ?_, ?_, ?_⟩ <;> kernel_rfl
@[go_sem] theorem ty9 : z05 Tryz.prog 9 = false /\ z0o Tryz.prog 9 = true /\ z0v Tryz.prog 9 = none /\ z4m Tryz.prog 9 = none /\ z4t Tryz.prog 9 = none /\ z4k Tryz.prog 9 = true /\ z1x Tryz.prog 9 = false /\ z3m Tryz.prog 9 = none /\ z01 Tryz.prog 9 = 1 /\ z0m Tryz.prog 9 = 16 /\ z12 Tryz.prog 9 = some [D.str ByteArray.empty] /\ z0f Tryz.prog 9 = true := by refine ⟨?_, ?_, ?_, ?_, ?_, ?_, ?_, ?_, ?_, ?_, ?_, ?_⟩ <;> kernel_rfl
theorem z87 : z05 Tryz.prog 9 = false := ty9.1
theorem zcv : z0o Tryz.prog 9 = true := ty9.2.1
theorem zbt : z01 Tryz.prog 9 = 1 := ty9.2.2.2.2.2.2.2.2.1
@[go_sem] theorem ty21 : z05 Tryz.prog 21 = false /\ z0o Tryz.prog 21 = true /\ z0v Tryz.prog 21 = none /\ z4m Tryz.prog 21 = none /\ z4t Tryz.prog 21 = some .i32 /\ z4k Tryz.prog 21 = false /\ z1x Tryz.prog 21 = false /\ z3m Tryz.prog 21 = none /\ z01 Tryz.prog 21 = 1 /\ z0m Tryz.prog 21 = 4 /\ z12 Tryz.prog 21 = some [D.int .i32 0] /\ z0f Tryz.prog 21 = true := by refine ⟨?_, ?_, ?_, ?_, ?_, ?_, ?_, ?_, ?_, ?_, ?_, ?_⟩ <;> kernel_rfl
@[go_sem] theorem ty23 : z05 Tryz.prog 23 = true /\ z0o Tryz.prog 23 = false /\ z0v Tryz.prog 23 = none /\ z4m Tryz.prog 23 = none /\ z4t Tryz.prog 23 = none /\ z4k Tryz.prog 23 = false /\ z1x Tryz.prog 23 = false /\ z3m Tryz.prog 23 = none /\ z01 Tryz.prog 23 = 3 /\ z0m Tryz.prog 23 = 24 /\ z12 Tryz.prog 23 = some [D.int .i64 0, D.int .i64 0, D.int .i64 0] /\ z0f Tryz.prog 23 = true := by refine ⟨?_, ?_, ?_, ?_, ?_, ?_, ?_, ?_, ?_, ?_, ?_, ?_⟩ <;> kernel_rfl
theorem zbu : z05 Tryz.prog 23 = true := ty23.1
theorem zfg : z01 Tryz.prog 23 = 3 := ty23.2.2.2.2.2.2.2.2.1
@[go_sem] theorem fieldsOK23 : z2n Tryz.prog 23 = true := by kernel_rfl
@[go_sem] theorem fieldT23_0 : z0x Tryz.prog 23 0 = some (0, 3) := by kernel_rfl
@[go_sem] theorem fieldT23_1 : z0x Tryz.prog 23 1 = some (1, 3) := by kernel_rfl
@[go_sem] theorem fieldT23_2 : z0x Tryz.prog 23 2 = some (2, 3) := by kernel_rfl
@[go_sem] theorem ty24 : z05 Tryz.prog 24 = false /\ z0o Tryz.prog 24 = true /\ z0v Tryz.prog 24 = some 82 /\ z4m Tryz.prog 24 = none /\ z4t Tryz.prog 24 = none /\ z4k Tryz.prog 24 = false /\ z1x Tryz.prog 24 = false /\ z3m Tryz.prog 24 = none /\ z01 Tryz.prog 24 = 1 /\ z0m Tryz.prog 24 = 24 /\ z12 Tryz.prog 24 = some [D.nil] /\ z0f Tryz.prog 24 = true := by refine ⟨?_, ?_, ?_, ?_, ?_, ?_, ?_, ?_, ?_, ?_, ?_, ?_⟩ <;> kernel_rfl
@[go_sem] theorem ty25 : z05 Tryz.prog 25 = false /\ z0o Tryz.prog 25 = true /\ z0v Tryz.prog 25 = some 27 /\ z4m Tryz.prog 25 = none /\ z4t Tryz.prog 25 = none /\ z4k Tryz.prog 25 = false /\ z1x Tryz.prog 25 = false /\ z3m Tryz.prog 25 = none /\ z01 Tryz.prog 25 = 1 /\ z0m Tryz.prog 25 = 24 /\ z12 Tryz.prog 25 = some [D.nil] /\ z0f Tryz.prog 25 = true := by refine ⟨?_, ?_, ?_, ?_, ?_, ?_, ?_, ?_, ?_, ?_, ?_, ?_⟩ <;> kernel_rfl
@[go_sem] theorem ty27 : z05 Tryz.prog 27 = true /\ z0o Tryz.prog 27 = false /\ z0v Tryz.prog 27 = none /\ z4m Tryz.prog 27 = none /\ z4t Tryz.prog 27 = none /\ z4k Tryz.prog 27 = false /\ z1x Tryz.prog 27 = false /\ z3m Tryz.prog 27 = none /\ z01 Tryz.prog 27 = 8 /\ z0m Tryz.prog 27 = 120 /\ z12 Tryz.prog 27 = some [D.int .i64 0, D.int .i64 0, D.int .i64 0, D.int .i64 0, D.str ByteArray.empty, D.nil, D.nil, D.nil] /\ z0f Tryz.prog 27 = true := by refine ⟨?_, ?_, ?_, ?_, ?_, ?_, ?_, ?_, ?_, ?_, ?_, ?_⟩ <;> kernel_rfl
theorem z9o : z05 Tryz.prog 27 = true := ty27.1
theorem zfh : z01 Tryz.prog 27 = 8 := ty27.2.2.2.2.2.2.2.2.1
@[go_sem] theorem fieldsOK27 : z2n Tryz.prog 27 = true := by kernel_rfl
@[go_sem] theorem fieldT27_0 : z0x Tryz.prog 27 0 = some (0, 23) := by kernel_rfl
@[go_sem] theorem fieldT27_1 : z0x Tryz.prog 27 1 = some (3, 3) := by kernel_rfl
@[go_sem] theorem fieldT27_2 : z0x Tryz.prog 27 2 = some (4, 9) := by kernel_rfl
@[go_sem] theorem fieldT27_3 : z0x Tryz.prog 27 3 = some (5, 24) := by kernel_rfl
@[go_sem] theorem fieldT27_4 : z0x Tryz.prog 27 4 = some (6, 24) := by kernel_rfl
@[go_sem] theorem fieldT27_5 : z0x Tryz.prog 27 5 = some (7, 25) := by kernel_rfl
@[go_sem] theorem ty30 : z05 Tryz.prog 30 = false /\ z0o Tryz.prog 30 = true /\ z0v Tryz.prog 30 = some 48 /\ z4m Tryz.prog 30 = none /\ z4t Tryz.prog 30 = none /\ z4k Tryz.prog 30 = false /\ z1x Tryz.prog 30 = false /\ z3m Tryz.prog 30 = none /\ z01 Tryz.prog 30 = 1 /\ z0m Tryz.prog 30 = 24 /\ z12 Tryz.prog 30 = some [D.nil] /\ z0f Tryz.prog 30 = true := by refine ⟨?_, ?_, ?_, ?_, ?_, ?_, ?_, ?_, ?_, ?_, ?_, ?_⟩ <;> kernel_rfl
@[go_sem] theorem ty31 : z05 Tryz.prog 31 = false /\ z0o Tryz.prog 31 = true /\ z0v Tryz.prog 31 = some 33 /\ z4m Tryz.prog 31 = none /\ z4t Tryz.prog 31 = none /\ z4k Tryz.prog 31 = false /\ z1x Tryz.prog 31 = false /\ z3m Tryz.prog 31 = none /\ z01 Tryz.prog 31 = 1 /\ z0m Tryz.prog 31 = 24 /\ z12 Tryz.prog 31 = some [D.nil] /\ z0f Tryz.prog 31 = true := by refine ⟨?_, ?_, ?_, ?_, ?_, ?_, ?_, ?_, ?_, ?_, ?_, ?_⟩ <;> kernel_rfl
@[go_sem] theorem ty33 : z05 Tryz.prog 33 = true /\ z0o Tryz.prog 33 = false /\ z0v Tryz.prog 33 = none /\ z4m Tryz.prog 33 = none /\ z4t Tryz.prog 33 = none /\ z4k Tryz.prog 33 = false /\ z1x Tryz.prog 33 = false /\ z3m Tryz.prog 33 = none /\ z01 Tryz.prog 33 = 11 /\ z0m Tryz.prog 33 = 152 /\ z12 Tryz.prog 33 = some [D.int .i64 0, D.int .i64 0, D.int .i64 0, D.int .i64 0, D.int .i64 0, D.str ByteArray.empty, D.str ByteArray.empty, D.bool false, D.nil, D.nil, D.nil] /\ z0f Tryz.prog 33 = true := by refine ⟨?_, ?_, ?_, ?_, ?_, ?_, ?_, ?_, ?_, ?_, ?_, ?_⟩ <;> kernel_rfl
theorem zj4 : z05 Tryz.prog 33 = true := ty33.1
theorem zmz : z01 Tryz.prog 33 = 11 := ty33.2.2.2.2.2.2.2.2.1
@[go_sem] theorem fieldsOK33 : z2n Tryz.prog 33 = true := by kernel_rfl
@[go_sem] theorem fieldT33_0 : z0x Tryz.prog 33 0 = some (0, 3) := by kernel_rfl
@[go_sem] theorem fieldT33_1 : z0x Tryz.prog 33 1 = some (1, 3) := by kernel_rfl
@[go_sem] theorem fieldT33_2 : z0x Tryz.prog 33 2 = some (2, 23) := by kernel_rfl
@[go_sem] theorem fieldT33_3 : z0x Tryz.prog 33 3 = some (5, 9) := by kernel_rfl
@[go_sem] theorem fieldT33_4 : z0x Tryz.prog 33 4 = some (6, 9) := by kernel_rfl
@[go_sem] theorem fieldT33_5 : z0x Tryz.prog 33 5 = some (7, 4) := by kernel_rfl
@[go_sem] theorem fieldT33_6 : z0x Tryz.prog 33 6 = some (8, 30) := by kernel_rfl
@[go_sem] theorem fieldT33_7 : z0x Tryz.prog 33 7 = some (9, 30) := by kernel_rfl
@[go_sem] theorem fieldT33_8 : z0x Tryz.prog 33 8 = some (10, 31) := by kernel_rfl
@[go_sem] theorem ty34 : z05 Tryz.prog 34 = false /\ z0o Tryz.prog 34 = true /\ z0v Tryz.prog 34 = none /\ z4m Tryz.prog 34 = none /\ z4t Tryz.prog 34 = some .i64 /\ z4k Tryz.prog 34 = false /\ z1x Tryz.prog 34 = false /\ z3m Tryz.prog 34 = none /\ z01 Tryz.prog 34 = 1 /\ z0m Tryz.prog 34 = 8 /\ z12 Tryz.prog 34 = some [D.int .i64 0] /\ z0f Tryz.prog 34 = true := by refine ⟨?_, ?_, ?_, ?_, ?_, ?_, ?_, ?_, ?_, ?_, ?_, ?_⟩ <;> kernel_rfl
@[go_sem] theorem ty40 : z05 Tryz.prog 40 = false /\ z0o Tryz.prog 40 = true /\ z0v Tryz.prog 40 = none /\ z4m Tryz.prog 40 = none /\ z4t Tryz.prog 40 = none /\ z4k Tryz.prog 40 = false /\ z1x Tryz.prog 40 = false /\ z3m Tryz.prog 40 = none /\ z01 Tryz.prog 40 = 1 /\ z0m Tryz.prog 40 = 8 /\ z12 Tryz.prog 40 = some [D.nfun] /\ z0f Tryz.prog 40 = true := by refine ⟨?_, ?_, ?_, ?_, ?_, ?_, ?_, ?_, ?_, ?_, ?_, ?_⟩ <;> kernel_rfl
@[go_sem] theorem ty48 : z05 Tryz.prog 48 = true /\ z0o Tryz.prog 48 = false /\ z0v Tryz.prog 48 = none /\ z4m Tryz.prog 48 = none /\ z4t Tryz.prog 48 = none /\ z4k Tryz.prog 48 = false /\ z1x Tryz.prog 48 = false /\ z3m Tryz.prog 48 = none /\ z01 Tryz.prog 48 = 2 /\ z0m Tryz.prog 48 = 24 /\ z12 Tryz.prog 48 = some [D.int .i64 0, D.str ByteArray.empty] /\ z0f Tryz.prog 48 = true := by refine ⟨?_, ?_, ?_, ?_, ?_, ?_, ?_, ?_, ?_, ?_, ?_, ?_⟩ <;> kernel_rfl
theorem zox : z05 Tryz.prog 48 = true := ty48.1
theorem zv4 : z01 Tryz.prog 48 = 2 := ty48.2.2.2.2.2.2.2.2.1
@[go_sem] theorem fieldsOK48 : z2n Tryz.prog 48 = true := by kernel_rfl
@[go_sem] theorem fieldT48_0 : z0x Tryz.prog 48 0 = some (0, 3) := by kernel_rfl
@[go_sem] theorem fieldT48_1 : z0x Tryz.prog 48 1 = some (1, 9) := by kernel_rfl
@[go_sem] theorem ty49 : z05 Tryz.prog 49 = false /\ z0o Tryz.prog 49 = true /\ z0v Tryz.prog 49 = none /\ z4m Tryz.prog 49 = none /\ z4t Tryz.prog 49 = none /\ z4k Tryz.prog 49 = false /\ z1x Tryz.prog 49 = false /\ z3m Tryz.prog 49 = some (23, 27) /\ z01 Tryz.prog 49 = 1 /\ z0m Tryz.prog 49 = 8 /\ z12 Tryz.prog 49 = some [D.nmp] /\ z0f Tryz.prog 49 = true := by refine ⟨?_, ?_, ?_, ?_, ?_, ?_, ?_, ?_, ?_, ?_, ?_, ?_⟩ <;> kernel_rfl
theorem mapT49 : z3m Tryz.prog 49 = some (23, 27) := ty49.2.2.2.2.2.2.2.1
@[go_sem] theorem ty50 : z05 Tryz.prog 50 = false /\ z0o Tryz.prog 50 = true /\ z0v Tryz.prog 50 = none /\ z4m Tryz.prog 50 = none /\ z4t Tryz.prog 50 = none /\ z4k Tryz.prog 50 = false /\ z1x Tryz.prog 50 = false /\ z3m Tryz.prog 50 = some (23, 4) /\ z01 Tryz.prog 50 = 1 /\ z0m Tryz.prog 50 = 8 /\ z12 Tryz.prog 50 = some [D.nmp] /\ z0f Tryz.prog 50 = true := by refine ⟨?_, ?_, ?_, ?_, ?_, ?_, ?_, ?_, ?_, ?_, ?_, ?_⟩ <;> kernel_rfl
theorem mapT50 : z3m Tryz.prog 50 = some (23, 4) := ty50.2.2.2.2.2.2.2.1
@[go_sem] theorem ty52 : z05 Tryz.prog 52 = true /\ z0o Tryz.prog 52 = false /\ z0v Tryz.prog 52 = none /\ z4m Tryz.prog 52 = none /\ z4t Tryz.prog 52 = none /\ z4k Tryz.prog 52 = false /\ z1x Tryz.prog 52 = false /\ z3m Tryz.prog 52 = none /\ z01 Tryz.prog 52 = 3 /\ z0m Tryz.prog 52 = 24 /\ z12 Tryz.prog 52 = some [D.nmp, D.nmp, D.nmp] /\ z0f Tryz.prog 52 = true := by refine ⟨?_, ?_, ?_, ?_, ?_, ?_, ?_, ?_, ?_, ?_, ?_, ?_⟩ <;> kernel_rfl
@[go_sem] theorem fieldsOK52 : z2n Tryz.prog 52 = true := by kernel_rfl
@[go_sem] theorem fieldT52_0 : z0x Tryz.prog 52 0 = some (0, 49) := by kernel_rfl
@[go_sem] theorem fieldT52_1 : z0x Tryz.prog 52 1 = some (1, 49) := by kernel_rfl
@[go_sem] theorem fieldT52_2 : z0x Tryz.prog 52 2 = some (2, 50) := by kernel_rfl
@[go_sem] theorem ty56 : z05 Tryz.prog 56 = false /\ z0o Tryz.prog 56 = true /\ z0v Tryz.prog 56 = some 23 /\ z4m Tryz.prog 56 = none /\ z4t Tryz.prog 56 = none /\ z4k Tryz.prog 56 = false /\ z1x Tryz.prog 56 = false /\ z3m Tryz.prog 56 = none /\ z01 Tryz.prog 56 = 1 /\ z0m Tryz.prog 56 = 24 /\ z12 Tryz.prog 56 = some [D.nil] /\ z0f Tryz.prog 56 = true := by refine ⟨?_, ?_, ?_, ?_, ?_, ?_, ?_, ?_, ?_, ?_, ?_, ?_⟩ <;> kernel_rfl
@[go_sem] theorem ty62 : z05 Tryz.prog 62 = false /\ z0o Tryz.prog 62 = true /\ z0v Tryz.prog 62 = none /\ z4m Tryz.prog 62 = none /\ z4t Tryz.prog 62 = none /\ z4k Tryz.prog 62 = false /\ z1x Tryz.prog 62 = false /\ z3m Tryz.prog 62 = none /\ z01 Tryz.prog 62 = 1 /\ z0m Tryz.prog 62 = 8 /\ z12 Tryz.prog 62 = some [D.nfun] /\ z0f Tryz.prog 62 = true := by refine ⟨?_, ?_, ?_, ?_, ?_, ?_, ?_, ?_, ?_, ?_, ?_, ?_⟩ <;> kernel_rfl
@[go_sem] theorem ty64 : z05 Tryz.prog 64 = false /\ z0o Tryz.prog 64 = true /\ z0v Tryz.prog 64 = none /\ z4m Tryz.prog 64 = none /\ z4t Tryz.prog 64 = none /\ z4k Tryz.prog 64 = false /\ z1x Tryz.prog 64 = false /\ z3m Tryz.prog 64 = none /\ z01 Tryz.prog 64 = 1 /\ z0m Tryz.prog 64 = 8 /\ z12 Tryz.prog 64 = some [D.nfun] /\ z0f Tryz.prog 64 = true := by refine ⟨?_, ?_, ?_, ?_, ?_, ?_, ?_, ?_, ?_, ?_, ?_, ?_⟩ <;> kernel_rfl
@[go_sem] theorem ty68 : z05 Tryz.prog 68 = false /\ z0o Tryz.prog 68 = true /\ z0v Tryz.prog 68 = none /\ z4m Tryz.prog 68 = none /\ z4t Tryz.prog 68 = none /\ z4k Tryz.prog 68 = false /\ z1x Tryz.prog 68 = false /\ z3m Tryz.prog 68 = some (23, 33) /\ z01 Tryz.prog 68 = 1 /\ z0m Tryz.prog 68 = 8 /\ z12 Tryz.prog 68 = some [D.nmp] /\ z0f Tryz.prog 68 = true := by refine ⟨?_, ?_, ?_, ?_, ?_, ?_, ?_, ?_, ?_, ?_, ?_, ?_⟩ <;> kernel_rfl
@[go_sem] theorem ty71 : z05 Tryz.prog 71 = true /\ z0o Tryz.prog 71 = false /\ z0v Tryz.prog 71 = none /\ z4m Tryz.prog 71 = none /\ z4t Tryz.prog 71 = none /\ z4k Tryz.prog 71 = false /\ z1x Tryz.prog 71 = false /\ z3m Tryz.prog 71 = none /\ z01 Tryz.prog 71 = 2 /\ z0m Tryz.prog 71 = 16 /\ z12 Tryz.prog 71 = some [D.nmp, D.nmp] /\ z0f Tryz.prog 71 = true := by refine ⟨?_, ?_, ?_, ?_, ?_, ?_, ?_, ?_, ?_, ?_, ?_, ?_⟩ <;> kernel_rfl
@[go_sem] theorem fieldsOK71 : z2n Tryz.prog 71 = true := by kernel_rfl
@[go_sem] theorem fieldT71_0 : z0x Tryz.prog 71 0 = some (0, 68) := by kernel_rfl
@[go_sem] theorem fieldT71_1 : z0x Tryz.prog 71 1 = some (1, 50) := by kernel_rfl
@[go_sem] theorem ty77 : z05 Tryz.prog 77 = false /\ z0o Tryz.prog 77 = true /\ z0v Tryz.prog 77 = some 30 /\ z4m Tryz.prog 77 = none /\ z4t Tryz.prog 77 = none /\ z4k Tryz.prog 77 = false /\ z1x Tryz.prog 77 = false /\ z3m Tryz.prog 77 = none /\ z01 Tryz.prog 77 = 1 /\ z0m Tryz.prog 77 = 24 /\ z12 Tryz.prog 77 = some [D.nil] /\ z0f Tryz.prog 77 = true := by refine ⟨?_, ?_, ?_, ?_, ?_, ?_, ?_, ?_, ?_, ?_, ?_, ?_⟩ <;> kernel_rfl
@[go_sem] theorem ty78 : z05 Tryz.prog 78 = false /\ z0o Tryz.prog 78 = true /\ z0v Tryz.prog 78 = some 9 /\ z4m Tryz.prog 78 = none /\ z4t Tryz.prog 78 = none /\ z4k Tryz.prog 78 = false /\ z1x Tryz.prog 78 = false /\ z3m Tryz.prog 78 = none /\ z01 Tryz.prog 78 = 1 /\ z0m Tryz.prog 78 = 24 /\ z12 Tryz.prog 78 = some [D.nil] /\ z0f Tryz.prog 78 = true := by refine ⟨?_, ?_, ?_, ?_, ?_, ?_, ?_, ?_, ?_, ?_, ?_, ?_⟩ <;> kernel_rfl
theorem zoy : z05 Tryz.prog 78 = false := ty78.1
@[go_sem] theorem ty80 : z05 Tryz.prog 80 = true /\ z0o Tryz.prog 80 = false /\ z0v Tryz.prog 80 = none /\ z4m Tryz.prog 80 = none /\ z4t Tryz.prog 80 = none /\ z4k Tryz.prog 80 = false /\ z1x Tryz.prog 80 = false /\ z3m Tryz.prog 80 = none /\ z01 Tryz.prog 80 = 3 /\ z0m Tryz.prog 80 = 24 /\ z12 Tryz.prog 80 = some [D.int .i64 0, D.int .i64 0, D.int .i64 0] /\ z0f Tryz.prog 80 = true := by refine ⟨?_, ?_, ?_, ?_, ?_, ?_, ?_, ?_, ?_, ?_, ?_, ?_⟩ <;> kernel_rfl
theorem zoz : z05 Tryz.prog 80 = true := ty80.1
theorem zp0 : z0o Tryz.prog 80 = false := ty80.2.1
theorem zv5 : z01 Tryz.prog 80 = 3 := ty80.2.2.2.2.2.2.2.2.1
@[go_sem] theorem fieldsOK80 : z2n Tryz.prog 80 = true := by kernel_rfl
@[go_sem] theorem fieldT80_0 : z0x Tryz.prog 80 0 = some (0, 3) := by kernel_rfl
@[go_sem] theorem fieldT80_1 : z0x Tryz.prog 80 1 = some (1, 3) := by kernel_rfl
@[go_sem] theorem fieldT80_2 : z0x Tryz.prog 80 2 = some (2, 3) := by kernel_rfl
@[go_sem] theorem ty82 : z05 Tryz.prog 82 = true /\ z0o Tryz.prog 82 = false /\ z0v Tryz.prog 82 = none /\ z4m Tryz.prog 82 = none /\ z4t Tryz.prog 82 = none /\ z4k Tryz.prog 82 = false /\ z1x Tryz.prog 82 = false /\ z3m Tryz.prog 82 = none /\ z01 Tryz.prog 82 = 4 /\ z0m Tryz.prog 82 = 40 /\ z12 Tryz.prog 82 = some [D.str ByteArray.empty, D.int .i64 0, D.int .i64 0, D.int .i64 0] /\ z0f Tryz.prog 82 = true := by refine ⟨?_, ?_, ?_, ?_, ?_, ?_, ?_, ?_, ?_, ?_, ?_, ?_⟩ <;> kernel_rfl
theorem zel : z05 Tryz.prog 82 = true := ty82.1
theorem zj5 : z01 Tryz.prog 82 = 4 := ty82.2.2.2.2.2.2.2.2.1
@[go_sem] theorem fieldsOK82 : z2n Tryz.prog 82 = true := by kernel_rfl
@[go_sem] theorem fieldT82_0 : z0x Tryz.prog 82 0 = some (0, 9) := by kernel_rfl
@[go_sem] theorem fieldT82_1 : z0x Tryz.prog 82 1 = some (1, 80) := by kernel_rfl
@[go_sem] theorem ty87 : z05 Tryz.prog 87 = false /\ z0o Tryz.prog 87 = true /\ z0v Tryz.prog 87 = some 90 /\ z4m Tryz.prog 87 = none /\ z4t Tryz.prog 87 = none /\ z4k Tryz.prog 87 = false /\ z1x Tryz.prog 87 = false /\ z3m Tryz.prog 87 = none /\ z01 Tryz.prog 87 = 1 /\ z0m Tryz.prog 87 = 24 /\ z12 Tryz.prog 87 = some [D.nil] /\ z0f Tryz.prog 87 = true := by refine ⟨?_, ?_, ?_, ?_, ?_, ?_, ?_, ?_, ?_, ?_, ?_, ?_⟩ <;> kernel_rfl
@[go_sem] theorem ty90 : z05 Tryz.prog 90 = true /\ z0o Tryz.prog 90 = false /\ z0v Tryz.prog 90 = none /\ z4m Tryz.prog 90 = none /\ z4t Tryz.prog 90 = none /\ z4k Tryz.prog 90 = false /\ z1x Tryz.prog 90 = false /\ z3m Tryz.prog 90 = none /\ z01 Tryz.prog 90 = 2 /\ z0m Tryz.prog 90 = 16 /\ z12 Tryz.prog 90 = some [D.int .i64 0, D.int .i64 0] /\ z0f Tryz.prog 90 = true := by refine ⟨?_, ?_, ?_, ?_, ?_, ?_, ?_, ?_, ?_, ?_, ?_, ?_⟩ <;> kernel_rfl
theorem zp1 : z05 Tryz.prog 90 = true := ty90.1
theorem zv6 : z01 Tryz.prog 90 = 2 := ty90.2.2.2.2.2.2.2.2.1
@[go_sem] theorem fieldsOK90 : z2n Tryz.prog 90 = true := by kernel_rfl
@[go_sem] theorem fieldT90_0 : z0x Tryz.prog 90 0 = some (0, 3) := by kernel_rfl
@[go_sem] theorem fieldT90_1 : z0x Tryz.prog 90 1 = some (1, 3) := by kernel_rfl
@[go_sem] theorem ty109 : z05 Tryz.prog 109 = false /\ z0o Tryz.prog 109 = true /\ z0v Tryz.prog 109 = none /\ z4m Tryz.prog 109 = none /\ z4t Tryz.prog 109 = none /\ z4k Tryz.prog 109 = false /\ z1x Tryz.prog 109 = false /\ z3m Tryz.prog 109 = some (23, 136) /\ z01 Tryz.prog 109 = 1 /\ z0m Tryz.prog 109 = 8 /\ z12 Tryz.prog 109 = some [D.nmp] /\ z0f Tryz.prog 109 = true := by refine ⟨?_, ?_, ?_, ?_, ?_, ?_, ?_, ?_, ?_, ?_, ?_, ?_⟩ <;> kernel_rfl
theorem mapT109 : z3m Tryz.prog 109 = some (23, 136) := ty109.2.2.2.2.2.2.2.1
@[go_sem] theorem ty111 : z05 Tryz.prog 111 = true /\ z0o Tryz.prog 111 = false /\ z0v Tryz.prog 111 = none /\ z4m Tryz.prog 111 = none /\ z4t Tryz.prog 111 = none /\ z4k Tryz.prog 111 = false /\ z1x Tryz.prog 111 = false /\ z3m Tryz.prog 111 = none /\ z01 Tryz.prog 111 = 18 /\ z0m Tryz.prog 111 = 256 /\ z0f Tryz.prog 111 = true := by refine ⟨?_, ?_, ?_, ?_, ?_, ?_, ?_, ?_, ?_, ?_, ?_⟩ <;> kernel_rfl
@[go_sem] theorem fieldsOK111 : z2n Tryz.prog 111 = true := by kernel_rfl
@[go_sem] theorem fieldT111_0 : z0x Tryz.prog 111 0 = some (0, 27) := by kernel_rfl
@[go_sem] theorem fieldT111_1 : z0x Tryz.prog 111 1 = some (8, 27) := by kernel_rfl
@[go_sem] theorem fieldT111_2 : z0x Tryz.prog 111 2 = some (16, 109) := by kernel_rfl
@[go_sem] theorem fieldT111_3 : z0x Tryz.prog 111 3 = some (17, 109) := by kernel_rfl
theorem zzj : z12 Tryz.prog 111 = some [D.int .i64 0, D.int .i64 0, D.int .i64 0, D.int .i64 0, D.str ByteArray.empty, D.nil, D.nil, D.nil, D.int .i64 0, D.int .i64 0, D.int .i64 0, D.int .i64 0, D.str ByteArray.empty, D.nil, D.nil, D.nil, D.nmp, D.nmp] := by kernel_rfl
@[go_sem] theorem ty115 : z05 Tryz.prog 115 = false /\ z0o Tryz.prog 115 = true /\ z0v Tryz.prog 115 = none /\ z4m Tryz.prog 115 = none /\ z4t Tryz.prog 115 = none /\ z4k Tryz.prog 115 = false /\ z1x Tryz.prog 115 = false /\ z3m Tryz.prog 115 = none /\ z01 Tryz.prog 115 = 1 /\ z0m Tryz.prog 115 = 8 /\ z12 Tryz.prog 115 = some [D.nfun] /\ z0f Tryz.prog 115 = true := by refine ⟨?_, ?_, ?_, ?_, ?_, ?_, ?_, ?_, ?_, ?_, ?_, ?_⟩ <;> kernel_rfl
theorem zv7 : z05 Tryz.prog 115 = false := ty115.1
@[go_sem] theorem ty119 : z05 Tryz.prog 119 = false /\ z0o Tryz.prog 119 = true /\ z0v Tryz.prog 119 = none /\ z4m Tryz.prog 119 = none /\ z4t Tryz.prog 119 = none /\ z4k Tryz.prog 119 = false /\ z1x Tryz.prog 119 = false /\ z3m Tryz.prog 119 = none /\ z01 Tryz.prog 119 = 1 /\ z0m Tryz.prog 119 = 8 /\ z12 Tryz.prog 119 = some [D.nfun] /\ z0f Tryz.prog 119 = true := by refine ⟨?_, ?_, ?_, ?_, ?_, ?_, ?_, ?_, ?_, ?_, ?_, ?_⟩ <;> kernel_rfl
@[go_sem] theorem ty121 : z05 Tryz.prog 121 = false /\ z0o Tryz.prog 121 = true /\ z0v Tryz.prog 121 = some 3 /\ z4m Tryz.prog 121 = none /\ z4t Tryz.prog 121 = none /\ z4k Tryz.prog 121 = false /\ z1x Tryz.prog 121 = false /\ z3m Tryz.prog 121 = none /\ z01 Tryz.prog 121 = 1 /\ z0m Tryz.prog 121 = 24 /\ z12 Tryz.prog 121 = some [D.nil] /\ z0f Tryz.prog 121 = true := by refine ⟨?_, ?_, ?_, ?_, ?_, ?_, ?_, ?_, ?_, ?_, ?_, ?_⟩ <;> kernel_rfl
theorem zv8 : z05 Tryz.prog 121 = false := ty121.1
@[go_sem] theorem ty128 : z05 Tryz.prog 128 = false /\ z0o Tryz.prog 128 = true /\ z0v Tryz.prog 128 = none /\ z4m Tryz.prog 128 = none /\ z4t Tryz.prog 128 = none /\ z4k Tryz.prog 128 = false /\ z1x Tryz.prog 128 = false /\ z3m Tryz.prog 128 = none /\ z01 Tryz.prog 128 = 1 /\ z0m Tryz.prog 128 = 8 /\ z12 Tryz.prog 128 = some [D.nfun] /\ z0f Tryz.prog 128 = true := by refine ⟨?_, ?_, ?_, ?_, ?_, ?_, ?_, ?_, ?_, ?_, ?_, ?_⟩ <;> kernel_rfl
@[go_sem] theorem ty129 : z05 Tryz.prog 129 = false /\ z0o Tryz.prog 129 = true /\ z0v Tryz.prog 129 = none /\ z4m Tryz.prog 129 = none /\ z4t Tryz.prog 129 = none /\ z4k Tryz.prog 129 = false /\ z1x Tryz.prog 129 = false /\ z3m Tryz.prog 129 = some (131, 4) /\ z01 Tryz.prog 129 = 1 /\ z0m Tryz.prog 129 = 8 /\ z12 Tryz.prog 129 = some [D.nmp] /\ z0f Tryz.prog 129 = true := by refine ⟨?_, ?_, ?_, ?_, ?_, ?_, ?_, ?_, ?_, ?_, ?_, ?_⟩ <;> kernel_rfl
@[go_sem] theorem ty131 : z05 Tryz.prog 131 = true /\ z0o Tryz.prog 131 = false /\ z0v Tryz.prog 131 = none /\ z4m Tryz.prog 131 = none /\ z4t Tryz.prog 131 = none /\ z4k Tryz.prog 131 = false /\ z1x Tryz.prog 131 = false /\ z3m Tryz.prog 131 = none /\ z01 Tryz.prog 131 = 2 /\ z0m Tryz.prog 131 = 24 /\ z12 Tryz.prog 131 = some [D.int .i64 0, D.str ByteArray.empty] /\ z0f Tryz.prog 131 = true := by refine ⟨?_, ?_, ?_, ?_, ?_, ?_, ?_, ?_, ?_, ?_, ?_, ?_⟩ <;> kernel_rfl
theorem zv9 : z05 Tryz.prog 131 = true := ty131.1
theorem zzk : z01 Tryz.prog 131 = 2 := ty131.2.2.2.2.2.2.2.2.1
@[go_sem] theorem fieldsOK131 : z2n Tryz.prog 131 = true := by kernel_rfl
@[go_sem] theorem fieldT131_0 : z0x Tryz.prog 131 0 = some (0, 3) := by kernel_rfl
@[go_sem] theorem fieldT131_1 : z0x Tryz.prog 131 1 = some (1, 9) := by kernel_rfl
@[go_sem] theorem ty136 : z05 Tryz.prog 136 = true /\ z0o Tryz.prog 136 = false /\ z0v Tryz.prog 136 = none /\ z4m Tryz.prog 136 = none /\ z4t Tryz.prog 136 = none /\ z4k Tryz.prog 136 = false /\ z1x Tryz.prog 136 = false /\ z3m Tryz.prog 136 = none /\ z01 Tryz.prog 136 = 12 /\ z0m Tryz.prog 136 = 152 /\ z12 Tryz.prog 136 = some [D.int .i64 0, D.int .i64 0, D.int .i64 0, D.int .i64 0, D.int .i64 0, D.int .i64 0, D.int .i64 0, D.int .i64 0, D.str ByteArray.empty, D.nil, D.nil, D.nil] /\ z0f Tryz.prog 136 = true := by refine ⟨?_, ?_, ?_, ?_, ?_, ?_, ?_, ?_, ?_, ?_, ?_, ?_⟩ <;> kernel_rfl
@[go_sem] theorem fieldsOK136 : z2n Tryz.prog 136 = true := by kernel_rfl
@[go_sem] theorem fieldT136_0 : z0x Tryz.prog 136 0 = some (0, 23) := by kernel_rfl
@[go_sem] theorem fieldT136_1 : z0x Tryz.prog 136 1 = some (3, 3) := by kernel_rfl
@[go_sem] theorem fieldT136_2 : z0x Tryz.prog 136 2 = some (4, 27) := by kernel_rfl
@[go_sem] theorem ty140 : z05 Tryz.prog 140 = false /\ z0o Tryz.prog 140 = true /\ z0v Tryz.prog 140 = none /\ z4m Tryz.prog 140 = none /\ z4t Tryz.prog 140 = none /\ z4k Tryz.prog 140 = false /\ z1x Tryz.prog 140 = false /\ z3m Tryz.prog 140 = none /\ z01 Tryz.prog 140 = 1 /\ z0m Tryz.prog 140 = 8 /\ z12 Tryz.prog 140 = some [D.nfun] /\ z0f Tryz.prog 140 = true := by refine ⟨?_, ?_, ?_, ?_, ?_, ?_, ?_, ?_, ?_, ?_, ?_, ?_⟩ <;> kernel_rfl
@[go_sem] theorem ty142 : z05 Tryz.prog 142 = false /\ z0o Tryz.prog 142 = true /\ z0v Tryz.prog 142 = none /\ z4m Tryz.prog 142 = none /\ z4t Tryz.prog 142 = none /\ z4k Tryz.prog 142 = false /\ z1x Tryz.prog 142 = false /\ z3m Tryz.prog 142 = none /\ z01 Tryz.prog 142 = 1 /\ z0m Tryz.prog 142 = 8 /\ z12 Tryz.prog 142 = some [D.nfun] /\ z0f Tryz.prog 142 = true := by refine ⟨?_, ?_, ?_, ?_, ?_, ?_, ?_, ?_, ?_, ?_, ?_, ?_⟩ <;> kernel_rfl
theorem zva : z05 Tryz.prog 142 = false := ty142.1
@[go_sem] theorem ty146 : z05 Tryz.prog 146 = true /\ z0o Tryz.prog 146 = false /\ z0v Tryz.prog 146 = none /\ z4m Tryz.prog 146 = some (8, 9) /\ z4t Tryz.prog 146 = none /\ z4k Tryz.prog 146 = false /\ z1x Tryz.prog 146 = false /\ z3m Tryz.prog 146 = none /\ z01 Tryz.prog 146 = 8 /\ z0m Tryz.prog 146 = 128 /\ z12 Tryz.prog 146 = some [D.str ByteArray.empty, D.str ByteArray.empty, D.str ByteArray.empty, D.str ByteArray.empty, D.str ByteArray.empty, D.str ByteArray.empty, D.str ByteArray.empty, D.str ByteArray.empty] /\ z0f Tryz.prog 146 = true := by refine ⟨?_, ?_, ?_, ?_, ?_, ?_, ?_, ?_, ?_, ?_, ?_, ?_⟩ <;> kernel_rfl
@[go_sem] theorem under146 : Tryz.prog.underlying 146 = some (.array 8 9) := by kernel_rfl
@[go_sem] theorem ty149 : z05 Tryz.prog 149 = false /\ z0o Tryz.prog 149 = true /\ z0v Tryz.prog 149 = none /\ z4m Tryz.prog 149 = none /\ z4t Tryz.prog 149 = none /\ z4k Tryz.prog 149 = false /\ z1x Tryz.prog 149 = false /\ z3m Tryz.prog 149 = none /\ z01 Tryz.prog 149 = 1 /\ z0m Tryz.prog 149 = 8 /\ z12 Tryz.prog 149 = some [D.nfun] /\ z0f Tryz.prog 149 = true := by refine ⟨?_, ?_, ?_, ?_, ?_, ?_, ?_, ?_, ?_, ?_, ?_, ?_⟩ <;> kernel_rfl
@[go_sem] theorem ty153 : z05 Tryz.prog 153 = true /\ z0o Tryz.prog 153 = false /\ z0v Tryz.prog 153 = none /\ z4m Tryz.prog 153 = some (8, 121) /\ z4t Tryz.prog 153 = none /\ z4k Tryz.prog 153 = false /\ z1x Tryz.prog 153 = false /\ z3m Tryz.prog 153 = none /\ z01 Tryz.prog 153 = 8 /\ z0m Tryz.prog 153 = 192 /\ z12 Tryz.prog 153 = some [D.nil, D.nil, D.nil, D.nil, D.nil, D.nil, D.nil, D.nil] /\ z0f Tryz.prog 153 = true := by refine ⟨?_, ?_, ?_, ?_, ?_, ?_, ?_, ?_, ?_, ?_, ?_, ?_⟩ <;> kernel_rfl
@[go_sem] theorem under153 : Tryz.prog.underlying 153 = some (.array 8 121) := by kernel_rfl
@[go_sem] theorem ty154 : z05 Tryz.prog 154 = false /\ z0o Tryz.prog 154 = true /\ z0v Tryz.prog 154 = none /\ z4m Tryz.prog 154 = none /\ z4t Tryz.prog 154 = none /\ z4k Tryz.prog 154 = false /\ z1x Tryz.prog 154 = false /\ z3m Tryz.prog 154 = none /\ z01 Tryz.prog 154 = 1 /\ z0m Tryz.prog 154 = 8 /\ z12 Tryz.prog 154 = some [D.nfun] /\ z0f Tryz.prog 154 = true := by refine ⟨?_, ?_, ?_, ?_, ?_, ?_, ?_, ?_, ?_, ?_, ?_, ?_⟩ <;> kernel_rfl
@[go_sem] theorem ty156 : z05 Tryz.prog 156 = false /\ z0o Tryz.prog 156 = true /\ z0v Tryz.prog 156 = some 78 /\ z4m Tryz.prog 156 = none /\ z4t Tryz.prog 156 = none /\ z4k Tryz.prog 156 = false /\ z1x Tryz.prog 156 = false /\ z3m Tryz.prog 156 = none /\ z01 Tryz.prog 156 = 1 /\ z0m Tryz.prog 156 = 24 /\ z12 Tryz.prog 156 = some [D.nil] /\ z0f Tryz.prog 156 = true := by refine ⟨?_, ?_, ?_, ?_, ?_, ?_, ?_, ?_, ?_, ?_, ?_, ?_⟩ <;> kernel_rfl
@[go_sem] theorem ty158 : z05 Tryz.prog 158 = false /\ z0o Tryz.prog 158 = true /\ z0v Tryz.prog 158 = none /\ z4m Tryz.prog 158 = none /\ z4t Tryz.prog 158 = none /\ z4k Tryz.prog 158 = false /\ z1x Tryz.prog 158 = false /\ z3m Tryz.prog 158 = none /\ z01 Tryz.prog 158 = 1 /\ z0m Tryz.prog 158 = 8 /\ z12 Tryz.prog 158 = some [D.nfun] /\ z0f Tryz.prog 158 = true := by refine ⟨?_, ?_, ?_, ?_, ?_, ?_, ?_, ?_, ?_, ?_, ?_, ?_⟩ <;> kernel_rfl
@[go_sem] theorem ty167 : z05 Tryz.prog 167 = false /\ z0o Tryz.prog 167 = true /\ z0v Tryz.prog 167 = none /\ z4m Tryz.prog 167 = none /\ z4t Tryz.prog 167 = none /\ z4k Tryz.prog 167 = false /\ z1x Tryz.prog 167 = false /\ z3m Tryz.prog 167 = none /\ z01 Tryz.prog 167 = 1 /\ z0m Tryz.prog 167 = 8 /\ z12 Tryz.prog 167 = some [D.nfun] /\ z0f Tryz.prog 167 = true := by refine ⟨?_, ?_, ?_, ?_, ?_, ?_, ?_, ?_, ?_, ?_, ?_, ?_⟩ <;> kernel_rfl
@[go_sem] theorem ty169 : z05 Tryz.prog 169 = false /\ z0o Tryz.prog 169 = true /\ z0v Tryz.prog 169 = some 5 /\ z4m Tryz.prog 169 = none /\ z4t Tryz.prog 169 = none /\ z4k Tryz.prog 169 = false /\ z1x Tryz.prog 169 = false /\ z3m Tryz.prog 169 = none /\ z01 Tryz.prog 169 = 1 /\ z0m Tryz.prog 169 = 24 /\ z12 Tryz.prog 169 = some [D.nil] /\ z0f Tryz.prog 169 = true := by refine ⟨?_, ?_, ?_, ?_, ?_, ?_, ?_, ?_, ?_, ?_, ?_, ?_⟩ <;> kernel_rfl
@[go_sem] theorem ptrT182 : ptrT Tryz.prog 182 = true := by kernel_rfl
@[go_sem] theorem keyT23 : zxr Tryz.prog 23 = true := by kernel_rfl
@[go_sem] theorem zeroD27 : zj0 Tryz.prog 27 = some (.agg [D.int .i64 0, D.int .i64 0, D.int .i64 0, D.int .i64 0, D.str ByteArray.empty, D.nil, D.nil, D.nil]) := by kernel_rfl
@[go_sem] theorem zeroD4 : zj0 Tryz.prog 4 = some (D.bool false) := by kernel_rfl
@[go_sem] theorem zeroD33 : zj0 Tryz.prog 33 = some (.agg [D.int .i64 0, D.int .i64 0, D.int .i64 0, D.int .i64 0, D.int .i64 0, D.str ByteArray.empty, D.str ByteArray.empty, D.bool false, D.nil, D.nil, D.nil]) := by kernel_rfl
@[go_sem] theorem zeroD136 : zj0 Tryz.prog 136 = some (.agg [D.int .i64 0, D.int .i64 0, D.int .i64 0, D.int .i64 0, D.int .i64 0, D.int .i64 0, D.int .i64 0, D.int .i64 0, D.str ByteArray.empty, D.nil, D.nil, D.nil]) := by kernel_rfl
@[go_sem] theorem keyT131 : zxr Tryz.prog 131 = true := by kernel_rfl
theorem z2g {P : Program} {d : Nat} {t : TypeId} {fs : Array Field} {xs ys : List D} (hu : P.underlying t = some (.struct fs)) (hs : P.stoodInHeld t = false) : eqD P (d + 1) t (.agg xs) (.agg ys) = z1d (eqD P d) P xs ys fs.toList := by
 simp only [eqD, hu, hs, if_true]
theorem z75 {P : Program} {d : Nat} {t : TypeId} {k : IntKind} {a b : Int} (hu : P.underlying t = some (.int k)) : eqD P (d + 1) t (.int k a) (.int k b) = some (decide (a = b)) := by
 simp only [eqD, hu, if_true, Option.some.injEq]; by_cases h : a = b <;> simp [h]
theorem zcw {P : Program} {d : Nat} {t : TypeId} {a b : ByteArray} (hu : P.underlying t = some .string) : eqD P (d + 1) t (.str a) (.str b) = some (decide (a = b)) := by
 simp only [eqD, hu]
theorem zzl : Tryz.prog.eqGuardType Tryz.prog.depth 22 = false := by kernel_rfl
theorem eqT22 (d : Nat) (a0 b0 : Int) (a1 b1 : Int) (a2 b2 : Int) : eqD Tryz.prog (d + 2) 22 (.agg [.int .i64 a0, .int .i64 a1, .int .i64 a2]) (.agg [.int .i64 b0, .int .i64 b1, .int .i64 b2]) = some (decide (a0 = b0) && decide (a1 = b1) && decide (a2 = b2)) := by
 rw [z2g Tryz.underlying22 (by kernel_rfl)]
 simp only [z1d, z4u, List.getElem?_cons_zero, List.getElem?_cons_succ, List.drop_succ_cons, List.drop_zero, List.take_succ_cons, List.take_zero, List.length_cons, List.length_nil, Nat.reduceAdd, Nat.reduceLeDiff, if_true, if_false, Bool.false_eq_true, ne_eq, String.reduceEq, not_false_eq_true, decide_eq_true_eq, z39, z74, z6t, z75 Tryz.underlying3]
 (repeat' split) <;> simp_all
@[go_sem] theorem eqU22 (a0 b0 : Int) (a1 b1 : Int) (a2 b2 : Int) : eqD Tryz.prog 8 22 (.agg [.int .i64 a0, .int .i64 a1, .int .i64 a2]) (.agg [.int .i64 b0, .int .i64 b1, .int .i64 b2]) = some (decide (a0 = b0) && decide (a1 = b1) && decide (a2 = b2)) := eqT22 6 a0 b0 a1 b1 a2 b2
attribute [go_sem] zzl
theorem zzm : Tryz.prog.eqGuardType Tryz.prog.depth 23 = false := by kernel_rfl
theorem eqT23 (d : Nat) (a0 b0 : Int) (a1 b1 : Int) (a2 b2 : Int) : eqD Tryz.prog (d + 2) 23 (.agg [.int .i64 a0, .int .i64 a1, .int .i64 a2]) (.agg [.int .i64 b0, .int .i64 b1, .int .i64 b2]) = some (decide (a0 = b0) && decide (a1 = b1) && decide (a2 = b2)) := by
 rw [z2g Tryz.underlying23 (by kernel_rfl)]
 simp only [z1d, z4u, List.getElem?_cons_zero, List.getElem?_cons_succ, List.drop_succ_cons, List.drop_zero, List.take_succ_cons, List.take_zero, List.length_cons, List.length_nil, Nat.reduceAdd, Nat.reduceLeDiff, if_true, if_false, Bool.false_eq_true, ne_eq, String.reduceEq, not_false_eq_true, decide_eq_true_eq, z39, z74, z6t, z75 Tryz.underlying3]
 (repeat' split) <;> simp_all
@[go_sem] theorem eqU23 (a0 b0 : Int) (a1 b1 : Int) (a2 b2 : Int) : eqD Tryz.prog 8 23 (.agg [.int .i64 a0, .int .i64 a1, .int .i64 a2]) (.agg [.int .i64 b0, .int .i64 b1, .int .i64 b2]) = some (decide (a0 = b0) && decide (a1 = b1) && decide (a2 = b2)) := eqT23 6 a0 b0 a1 b1 a2 b2
attribute [go_sem] zzm
theorem zzn : Tryz.prog.eqGuardType Tryz.prog.depth 47 = false := by kernel_rfl
theorem eqT47 (d : Nat) (a0 b0 : Int) (a1 b1 : ByteArray) : eqD Tryz.prog (d + 2) 47 (.agg [.int .i64 a0, .str a1]) (.agg [.int .i64 b0, .str b1]) = some (decide (a0 = b0) && decide (a1 = b1)) := by
 rw [z2g Tryz.underlying47 (by kernel_rfl)]
 simp only [z1d, z4u, List.getElem?_cons_zero, List.getElem?_cons_succ, List.drop_succ_cons, List.drop_zero, List.take_succ_cons, List.take_zero, List.length_cons, List.length_nil, Nat.reduceAdd, Nat.reduceLeDiff, if_true, if_false, Bool.false_eq_true, ne_eq, String.reduceEq, not_false_eq_true, decide_eq_true_eq, z39, z74, z6t, z75 Tryz.underlying3, z87, zcv, zbt, zcw Tryz.underlying9]
 (repeat' split) <;> simp_all
@[go_sem] theorem eqU47 (a0 b0 : Int) (a1 b1 : ByteArray) : eqD Tryz.prog 8 47 (.agg [.int .i64 a0, .str a1]) (.agg [.int .i64 b0, .str b1]) = some (decide (a0 = b0) && decide (a1 = b1)) := eqT47 6 a0 b0 a1 b1
attribute [go_sem] zzn
theorem zzo : Tryz.prog.eqGuardType Tryz.prog.depth 48 = false := by kernel_rfl
theorem eqT48 (d : Nat) (a0 b0 : Int) (a1 b1 : ByteArray) : eqD Tryz.prog (d + 2) 48 (.agg [.int .i64 a0, .str a1]) (.agg [.int .i64 b0, .str b1]) = some (decide (a0 = b0) && decide (a1 = b1)) := by
 rw [z2g Tryz.underlying48 (by kernel_rfl)]
 simp only [z1d, z4u, List.getElem?_cons_zero, List.getElem?_cons_succ, List.drop_succ_cons, List.drop_zero, List.take_succ_cons, List.take_zero, List.length_cons, List.length_nil, Nat.reduceAdd, Nat.reduceLeDiff, if_true, if_false, Bool.false_eq_true, ne_eq, String.reduceEq, not_false_eq_true, decide_eq_true_eq, z39, z74, z6t, z75 Tryz.underlying3, z87, zcv, zbt, zcw Tryz.underlying9]
 (repeat' split) <;> simp_all
@[go_sem] theorem eqU48 (a0 b0 : Int) (a1 b1 : ByteArray) : eqD Tryz.prog 8 48 (.agg [.int .i64 a0, .str a1]) (.agg [.int .i64 b0, .str b1]) = some (decide (a0 = b0) && decide (a1 = b1)) := eqT48 6 a0 b0 a1 b1
attribute [go_sem] zzo
theorem zzp : Tryz.prog.eqGuardType Tryz.prog.depth 79 = false := by kernel_rfl
theorem eqT79 (d : Nat) (a0 b0 : Int) (a1 b1 : Int) (a2 b2 : Int) : eqD Tryz.prog (d + 2) 79 (.agg [.int .i64 a0, .int .i64 a1, .int .i64 a2]) (.agg [.int .i64 b0, .int .i64 b1, .int .i64 b2]) = some (decide (a0 = b0) && decide (a1 = b1) && decide (a2 = b2)) := by
 rw [z2g Tryz.underlying79 (by kernel_rfl)]
 simp only [z1d, z4u, List.getElem?_cons_zero, List.getElem?_cons_succ, List.drop_succ_cons, List.drop_zero, List.take_succ_cons, List.take_zero, List.length_cons, List.length_nil, Nat.reduceAdd, Nat.reduceLeDiff, if_true, if_false, Bool.false_eq_true, ne_eq, String.reduceEq, not_false_eq_true, decide_eq_true_eq, z39, z74, z6t, z75 Tryz.underlying3]
 (repeat' split) <;> simp_all
@[go_sem] theorem eqU79 (a0 b0 : Int) (a1 b1 : Int) (a2 b2 : Int) : eqD Tryz.prog 8 79 (.agg [.int .i64 a0, .int .i64 a1, .int .i64 a2]) (.agg [.int .i64 b0, .int .i64 b1, .int .i64 b2]) = some (decide (a0 = b0) && decide (a1 = b1) && decide (a2 = b2)) := eqT79 6 a0 b0 a1 b1 a2 b2
attribute [go_sem] zzp
theorem zzq : Tryz.prog.eqGuardType Tryz.prog.depth 80 = false := by kernel_rfl
theorem eqT80 (d : Nat) (a0 b0 : Int) (a1 b1 : Int) (a2 b2 : Int) : eqD Tryz.prog (d + 2) 80 (.agg [.int .i64 a0, .int .i64 a1, .int .i64 a2]) (.agg [.int .i64 b0, .int .i64 b1, .int .i64 b2]) = some (decide (a0 = b0) && decide (a1 = b1) && decide (a2 = b2)) := by
 rw [z2g Tryz.underlying80 (by kernel_rfl)]
 simp only [z1d, z4u, List.getElem?_cons_zero, List.getElem?_cons_succ, List.drop_succ_cons, List.drop_zero, List.take_succ_cons, List.take_zero, List.length_cons, List.length_nil, Nat.reduceAdd, Nat.reduceLeDiff, if_true, if_false, Bool.false_eq_true, ne_eq, String.reduceEq, not_false_eq_true, decide_eq_true_eq, z39, z74, z6t, z75 Tryz.underlying3]
 (repeat' split) <;> simp_all
@[go_sem] theorem eqU80 (a0 b0 : Int) (a1 b1 : Int) (a2 b2 : Int) : eqD Tryz.prog 8 80 (.agg [.int .i64 a0, .int .i64 a1, .int .i64 a2]) (.agg [.int .i64 b0, .int .i64 b1, .int .i64 b2]) = some (decide (a0 = b0) && decide (a1 = b1) && decide (a2 = b2)) := eqT80 6 a0 b0 a1 b1 a2 b2
attribute [go_sem] zzq
theorem zzr : Tryz.prog.eqGuardType Tryz.prog.depth 81 = false := by kernel_rfl
theorem eqT81 (d : Nat) (a0 b0 : ByteArray) (a1 b1 : Int) (a2 b2 : Int) (a3 b3 : Int) : eqD Tryz.prog (d + 3) 81 (.agg [.str a0, .int .i64 a1, .int .i64 a2, .int .i64 a3]) (.agg [.str b0, .int .i64 b1, .int .i64 b2, .int .i64 b3]) = some (decide (a0 = b0) && (decide (a1 = b1) && decide (a2 = b2) && decide (a3 = b3))) := by
 rw [z2g Tryz.underlying81 (by kernel_rfl)]
 simp only [z1d, z4u, List.getElem?_cons_zero, List.getElem?_cons_succ, List.drop_succ_cons, List.drop_zero, List.take_succ_cons, List.take_zero, List.length_cons, List.length_nil, Nat.reduceAdd, Nat.reduceLeDiff, if_true, if_false, Bool.false_eq_true, ne_eq, String.reduceEq, not_false_eq_true, decide_eq_true_eq, z87, zcv, zbt, zcw Tryz.underlying9, zoz, zp0, zv5, eqT80]
 (repeat' split) <;> simp_all
@[go_sem] theorem eqU81 (a0 b0 : ByteArray) (a1 b1 : Int) (a2 b2 : Int) (a3 b3 : Int) : eqD Tryz.prog 8 81 (.agg [.str a0, .int .i64 a1, .int .i64 a2, .int .i64 a3]) (.agg [.str b0, .int .i64 b1, .int .i64 b2, .int .i64 b3]) = some (decide (a0 = b0) && (decide (a1 = b1) && decide (a2 = b2) && decide (a3 = b3))) := eqT81 5 a0 b0 a1 b1 a2 b2 a3 b3
attribute [go_sem] zzr
theorem zzs : Tryz.prog.eqGuardType Tryz.prog.depth 82 = false := by kernel_rfl
theorem eqT82 (d : Nat) (a0 b0 : ByteArray) (a1 b1 : Int) (a2 b2 : Int) (a3 b3 : Int) : eqD Tryz.prog (d + 3) 82 (.agg [.str a0, .int .i64 a1, .int .i64 a2, .int .i64 a3]) (.agg [.str b0, .int .i64 b1, .int .i64 b2, .int .i64 b3]) = some (decide (a0 = b0) && (decide (a1 = b1) && decide (a2 = b2) && decide (a3 = b3))) := by
 rw [z2g Tryz.underlying82 (by kernel_rfl)]
 simp only [z1d, z4u, List.getElem?_cons_zero, List.getElem?_cons_succ, List.drop_succ_cons, List.drop_zero, List.take_succ_cons, List.take_zero, List.length_cons, List.length_nil, Nat.reduceAdd, Nat.reduceLeDiff, if_true, if_false, Bool.false_eq_true, ne_eq, String.reduceEq, not_false_eq_true, decide_eq_true_eq, z87, zcv, zbt, zcw Tryz.underlying9, zoz, zp0, zv5, eqT80]
 (repeat' split) <;> simp_all
@[go_sem] theorem eqU82 (a0 b0 : ByteArray) (a1 b1 : Int) (a2 b2 : Int) (a3 b3 : Int) : eqD Tryz.prog 8 82 (.agg [.str a0, .int .i64 a1, .int .i64 a2, .int .i64 a3]) (.agg [.str b0, .int .i64 b1, .int .i64 b2, .int .i64 b3]) = some (decide (a0 = b0) && (decide (a1 = b1) && decide (a2 = b2) && decide (a3 = b3))) := eqT82 5 a0 b0 a1 b1 a2 b2 a3 b3
attribute [go_sem] zzs
theorem zzt : Tryz.prog.eqGuardType Tryz.prog.depth 89 = false := by kernel_rfl
theorem eqT89 (d : Nat) (a0 b0 : Int) (a1 b1 : Int) : eqD Tryz.prog (d + 2) 89 (.agg [.int .i64 a0, .int .i64 a1]) (.agg [.int .i64 b0, .int .i64 b1]) = some (decide (a0 = b0) && decide (a1 = b1)) := by
 rw [z2g Tryz.underlying89 (by kernel_rfl)]
 simp only [z1d, z4u, List.getElem?_cons_zero, List.getElem?_cons_succ, List.drop_succ_cons, List.drop_zero, List.take_succ_cons, List.take_zero, List.length_cons, List.length_nil, Nat.reduceAdd, Nat.reduceLeDiff, if_true, if_false, Bool.false_eq_true, ne_eq, String.reduceEq, not_false_eq_true, decide_eq_true_eq, z39, z74, z6t, z75 Tryz.underlying3]
 (repeat' split) <;> simp_all
@[go_sem] theorem eqU89 (a0 b0 : Int) (a1 b1 : Int) : eqD Tryz.prog 8 89 (.agg [.int .i64 a0, .int .i64 a1]) (.agg [.int .i64 b0, .int .i64 b1]) = some (decide (a0 = b0) && decide (a1 = b1)) := eqT89 6 a0 b0 a1 b1
attribute [go_sem] zzt
theorem zzu : Tryz.prog.eqGuardType Tryz.prog.depth 90 = false := by kernel_rfl
theorem eqT90 (d : Nat) (a0 b0 : Int) (a1 b1 : Int) : eqD Tryz.prog (d + 2) 90 (.agg [.int .i64 a0, .int .i64 a1]) (.agg [.int .i64 b0, .int .i64 b1]) = some (decide (a0 = b0) && decide (a1 = b1)) := by
 rw [z2g Tryz.underlying90 (by kernel_rfl)]
 simp only [z1d, z4u, List.getElem?_cons_zero, List.getElem?_cons_succ, List.drop_succ_cons, List.drop_zero, List.take_succ_cons, List.take_zero, List.length_cons, List.length_nil, Nat.reduceAdd, Nat.reduceLeDiff, if_true, if_false, Bool.false_eq_true, ne_eq, String.reduceEq, not_false_eq_true, decide_eq_true_eq, z39, z74, z6t, z75 Tryz.underlying3]
 (repeat' split) <;> simp_all
@[go_sem] theorem eqU90 (a0 b0 : Int) (a1 b1 : Int) : eqD Tryz.prog 8 90 (.agg [.int .i64 a0, .int .i64 a1]) (.agg [.int .i64 b0, .int .i64 b1]) = some (decide (a0 = b0) && decide (a1 = b1)) := eqT90 6 a0 b0 a1 b1
attribute [go_sem] zzu
theorem zvb : Tryz.prog.eqGuardType Tryz.prog.depth 130 = false := by kernel_rfl
theorem eqT130 (d : Nat) (a0 b0 : Int) (a1 b1 : ByteArray) : eqD Tryz.prog (d + 2) 130 (.agg [.int .i64 a0, .str a1]) (.agg [.int .i64 b0, .str b1]) = some (decide (a0 = b0) && decide (a1 = b1)) := by
 rw [z2g Tryz.underlying130 (by kernel_rfl)]
 simp only [z1d, z4u, List.getElem?_cons_zero, List.getElem?_cons_succ, List.drop_succ_cons, List.drop_zero, List.take_succ_cons, List.take_zero, List.length_cons, List.length_nil, Nat.reduceAdd, Nat.reduceLeDiff, if_true, if_false, Bool.false_eq_true, ne_eq, String.reduceEq, not_false_eq_true, decide_eq_true_eq, z39, z74, z6t, z75 Tryz.underlying3, z87, zcv, zbt, zcw Tryz.underlying9]
 (repeat' split) <;> simp_all
@[go_sem] theorem eqU130 (a0 b0 : Int) (a1 b1 : ByteArray) : eqD Tryz.prog 8 130 (.agg [.int .i64 a0, .str a1]) (.agg [.int .i64 b0, .str b1]) = some (decide (a0 = b0) && decide (a1 = b1)) := eqT130 6 a0 b0 a1 b1
attribute [go_sem] zvb
theorem zvc : Tryz.prog.eqGuardType Tryz.prog.depth 131 = false := by kernel_rfl
theorem eqT131 (d : Nat) (a0 b0 : Int) (a1 b1 : ByteArray) : eqD Tryz.prog (d + 2) 131 (.agg [.int .i64 a0, .str a1]) (.agg [.int .i64 b0, .str b1]) = some (decide (a0 = b0) && decide (a1 = b1)) := by
 rw [z2g Tryz.underlying131 (by kernel_rfl)]
 simp only [z1d, z4u, List.getElem?_cons_zero, List.getElem?_cons_succ, List.drop_succ_cons, List.drop_zero, List.take_succ_cons, List.take_zero, List.length_cons, List.length_nil, Nat.reduceAdd, Nat.reduceLeDiff, if_true, if_false, Bool.false_eq_true, ne_eq, String.reduceEq, not_false_eq_true, decide_eq_true_eq, z39, z74, z6t, z75 Tryz.underlying3, z87, zcv, zbt, zcw Tryz.underlying9]
 (repeat' split) <;> simp_all
@[go_sem] theorem eqU131 (a0 b0 : Int) (a1 b1 : ByteArray) : eqD Tryz.prog 8 131 (.agg [.int .i64 a0, .str a1]) (.agg [.int .i64 b0, .str b1]) = some (decide (a0 = b0) && decide (a1 = b1)) := eqT131 6 a0 b0 a1 b1
attribute [go_sem] zvc
theorem z53 : Tryz.prog.follows .mixedOrders = true := by kernel_rfl

/-- A contract out of a walk, its decisions in one. -/
theorem z23 (own : List Nat) {f : FuncId} {fn : Func} {c : Code} (hf : Tryz.prog.funcs[f]? = some fn) (hb : fn.body = some c) (hh : (fn.name == "runtime.NumGoroutine") = false /\ z6c fn.ntmps c = true)
    {ds : List D} {H : HM} {nx : Nat} {K : D -> HM -> Nat -> Prop} (hds : Nat.ble ds.length fn.ntmps = true) (h : awp Tryz.prog own c (retQ Tryz.prog fn.results.toList K) (st0 ds H nx)) : AC Tryz.prog f ds H nx K :=
  zqze own hf hb hh.1 z53 hh.2 (Nat.le_of_ble_eq_true hds) h
end Go.Proofs.YtfechgagcgbldaaGreatDoor.Facts
namespace Go.Proofs.YtfechgagcgbldaaGreatDoor.Abs
open Go.RowKit Go.ChangeShapes Facts
def zru (P : Program) : Nat -> TypeId -> DataW Unit -> Option (List D)
 | 0, _, _ => none
 | n + 1, t, d => match P.underlying t, d with
  | some .string, .lit (.string l) => some [.str ⟨l.toArray⟩]
  | some (.int k), .lit (.int _ i) => some [.int k i]
  | some (.slice _), .nil => some [.nil]
  | some (.slice e), .slice ds _ => (ds.mapM (zru P n e)).map fun parts => [.rsl true (z01 P e) (parts.map (elD (z05 P e)))]
  | some (.array m e), .agg ds => if P.cellsOf t = m * P.cellsOf e then (ds.mapM (zru P n e)).map List.flatten else none
  | _, _ => none
section
variable {P : Program} {W : World} {base : Nat} {spare : Nat -> Bool} {held : Bool}
theorem zrv : ∀ (n : Nat) (m : Nat) (t : TypeId) (cs : List Value) (d : DataW Unit) (p : List MemPlace) (ds : List D), DataW.trod (fun _ => ()) P W base spare held m t cs = some (d, p) -> zru P n t d = some ds ->
  relAll (z7u W) ds cs /\ z6i cs /\ (z05 P t = false -> ∃ c d', cs = [c] /\ ds = [d']) := by
 intro n
 induction n with
 | zero => intro m t cs d p ds _ h; simp [zru] at h
 | succ n ih =>
  intro m t cs d p ds ht h
  unfold zru at h
  split at h
  ·rename_i l hu
   simp only [Option.some.injEq] at h
   subst h
   obtain ⟨s, rfl, hx, _⟩ := DataW.trod_string hu ht
   simp only [Prod.mk.injEq, DataW.lit.injEq, Lit.string.injEq] at hx
   obtain ⟨rfl, _⟩ := hx
   obtain ⟨h1, h2⟩ := z5e (W := W) (d := .str ⟨s.data.toList.toArray⟩) (v := .string s) (by simp only [rel]) rfl
   exact ⟨h1, h2, fun _ => ⟨_, _, rfl, rfl⟩⟩
  ·rename_i k k' i hu
   simp only [Option.some.injEq] at h
   subst h
   obtain ⟨i', rfl, hx, _⟩ := DataW.trod_int hu ht
   simp only [Prod.mk.injEq, DataW.lit.injEq, Lit.int.injEq] at hx
   obtain ⟨⟨_, rfl⟩, _⟩ := hx
   obtain ⟨h1, h2⟩ := z5e (W := W) (d := .int k i) (v := .int k i) (by simp [rel]) rfl
   exact ⟨h1, h2, fun _ => ⟨_, _, rfl, rfl⟩⟩
  ·rename_i e hu
   simp only [Option.some.injEq] at h
   subst h
   rcases DataW.trod_slice hu ht with ⟨rfl, _⟩ | ⟨_, _, _, _, _, _, _, _, hx, _⟩
   ·obtain ⟨h1, h2⟩ := z5e (W := W) (d := .nil) (v := .slice none 0 0) (by simp [rel]) rfl
    exact ⟨h1, h2, fun _ => ⟨_, _, rfl, rfl⟩⟩
   ·simp at hx
  ·rename_i e dl sp hu
   rcases DataW.trod_slice hu ht with ⟨_, hx⟩ | ⟨a, len, cap, elems, rest, m, hm, rfl, hx, _, hl, hcm, hlen, hel, _⟩
   ·simp at hx
   simp only [Prod.mk.injEq, DataW.slice.injEq] at hx
   obtain ⟨⟨rfl, _⟩, _⟩ := hx
   simp only [Option.map_eq_some_iff] at h
   obtain ⟨parts, hparts, rfl⟩ := h
   have hpl : parts.length = len := by
    have := mapM_some_length hparts
    simpa [hlen] using this
   have each : ∀ i : _root_.Fin len, ∃ p : List Value × List D, parts[i.1]? = some p.2 /\ W.cells? base (a.add (i * P.cellsOf e)) (P.cellsOf e) = some p.1 /\ relAll (z7u W) p.2 p.1 /\ z6i p.1 /\ (z05 P e = false -> ∃ c d, p.1 = [c] /\ p.2 = [d]) := by
    intro i
    have hi := hel i i.2
    rw [List.getElem?_eq_getElem (by omega), Option.bind_eq_some_iff] at hi
    obtain ⟨cs', h1, h2⟩ := hi
    have hg := mapM_some_get hparts i.1 (elems[i.1]'(by omega)).1 (by rw [List.getElem?_map, List.getElem?_eq_getElem (by omega)]; rfl)
    rw [List.getElem?_eq_getElem (by omega)] at hg
    obtain ⟨k1, k2, k4⟩ := ih _ e cs' _ _ _ h2 hg
    exact ⟨(cs', parts[i.1]'(by omega)), List.getElem?_eq_getElem (by omega), h1, k1, k2, k4⟩
   obtain ⟨f, hf⟩ := Classical.axiomOfChoice each
   have hag : ∀ i, rel (z7u W) (elD (z05 P e) (f i).2) (elV (z05 P e) (f i).1) /\ (elV (z05 P e) (f i).1).cells.toList = (f i).1 := by
    intro i
    obtain ⟨_, h1, h2, h3, h5⟩ := hf i
    cases hag : z05 P e with
    | true =>
     simp only [elD, elV, if_true, Value.cells]
     exact ⟨by simp only [rel]; exact ⟨_, rfl, h2, h3⟩, trivial⟩
    | false =>
     obtain ⟨c, d, hc1, hd1⟩ := h5 hag
     rw [hc1, hd1] at h2
     rw [hc1] at h3
     simp only [elD, elV, hc1, hd1, Bool.false_eq_true, if_false, List.getElem?_cons_zero, Option.getD_some]
     simp only [relAll] at h2
     obtain ⟨v, r, hv, hrel, hr⟩ := h2
     simp only [List.cons.injEq] at hv
     obtain ⟨rfl, rfl⟩ := hv
     refine ⟨hrel, ?_⟩
     rw [z27 (h3 c (by simp))]
   have hsz : z01 P e = P.cellsOf e := rfl
   obtain ⟨h1, h2⟩ := z5e (W := W) (d := .rsl true (z01 P e) (parts.map (elD (z05 P e)))) (v := .slice (some a) len cap) (by
    simp only [rel]
    refine .inr ⟨a, cap, List.ofFn fun i => elV (z05 P e) (f i).1, by simp [hpl], by simpa [hpl] using hl, hcm, z47 (by simp [hpl]) (fun i d v V hv => ?_), fun i v hv => ?_⟩
    ·simp only [List.getElem?_map, List.getElem?_ofFn] at V hv
     split at hv
     ·rename_i hi
      rw [(hf ⟨i, hi⟩).1] at V
      simp only [Option.map_some, Option.some.injEq] at V hv
      subst V; subst hv
      exact (hag ⟨i, hi⟩).1
     ·cases hv
    ·simp only [List.getElem?_ofFn] at hv
     split at hv
     ·rename_i hi
      simp only [Option.some.injEq] at hv
      subst hv
      obtain ⟨_, g1, _⟩ := hf ⟨i, hi⟩
      obtain ⟨_, g2, g3⟩ := World.cells?_some g1
      have g4 := (hag ⟨i, hi⟩).2
      refine ⟨by rw [<- Array.length_toList, g4, g2, hsz], fun j c hj => ?_⟩
      rw [g4] at hj
      have hjl : j < P.cellsOf e := by rw [<- g2]; exact (List.getElem?_eq_some_iff.1 hj).1
      have := g3 j hjl
      rw [hj] at this
      exact this
     ·cases hv) rfl
   exact ⟨h1, h2, fun _ => ⟨_, _, rfl, rfl⟩⟩
  ·rename_i m' e dl hu
   split at h
   ·rename_i hc
    obtain ⟨xs, m1, hm, hx, hcl, hxl, hxe⟩ := DataW.trod_array hu ht
    simp only [Prod.mk.injEq, DataW.agg.injEq] at hx
    obtain ⟨rfl, _⟩ := hx
    simp only [Option.map_eq_some_iff] at h
    obtain ⟨parts, hparts, rfl⟩ := h
    have hpl : parts.length = m' := by
     have := mapM_some_length hparts
     simpa [hxl] using this
    have key : ∀ k, k <= m' -> relAll (z7u W) (parts.take k).flatten (cs.take (k * P.cellsOf e)) /\ z6i (cs.take (k * P.cellsOf e)) := by
     intro k
     induction k with
     | zero => intro _; simp only [List.take_zero, List.flatten_nil, Nat.zero_mul]; exact ⟨z0k, zj1⟩
     | succ k ihk =>
      intro O
      obtain ⟨q1, q2⟩ := ihk (by omega)
      have hi := hxe k (by omega)
      rw [List.getElem?_eq_getElem (by omega)] at hi
      have hg := mapM_some_get hparts k (xs[k]'(by omega)).1 (by rw [List.getElem?_map, List.getElem?_eq_getElem (by omega)]; rfl)
      rw [List.getElem?_eq_getElem (by omega)] at hg
      obtain ⟨k1, k2, _⟩ := ih _ e _ _ _ _ hi hg
      rw [List.take_succ_eq_append_getElem (by omega), List.flatten_append, Nat.add_mul, Nat.one_mul, List.take_add]
      simp only [List.flatten_cons, List.flatten_nil, List.append_nil]
      exact ⟨z1y q1 k1, z65 q2 k2⟩
    obtain ⟨q1, q2⟩ := key m' (Nat.le_refl _)
    rw [List.take_of_length_le (by omega), List.take_of_length_le (by omega)] at q1
    rw [List.take_of_length_le (by omega)] at q2
    refine ⟨q1, q2, fun hag => ?_⟩
    simp only [z05, hu] at hag
    cases hag
   ·cases h
  ·cases h
theorem zkz {g : Nat} {nm : String} {t : TypeId} {cs : Array Value} {fuel : Nat} {d : DataW Unit} {p : List MemPlace} {ds : List D} (hg : P.globalNamed nm = some g) (hv : W.var? P nm = some cs)
  (V : DataW.trod (fun _ => ()) P W 0 (fun _ => true) false fuel t cs.toList = some (d, p)) (hr : zru P 4 t d = some ds) : rel (z7u W) (.rptr (.agg ds)) (.pointer (some ⟨g, 0, none⟩)) := by
 obtain ⟨h1, h2, _⟩ := zrv 4 fuel t cs.toList d p ds V hr
 simp only [rel]
 refine ⟨_, .agg cs, rfl, ⟨cs.toList, by simp, h1, h2⟩, fun j c hj => ?_⟩
 have := World.var?_cell hg hv j
 rw [z0w, Nat.zero_add]
 show W.cell? _ = _
 rw [this]
 simpa [Value.cells] using hj
end
end Go.Proofs.YtfechgagcgbldaaGreatDoor.Abs
namespace Go.Proofs.YtfechgagcgbldaaGreatDoor
open Abs Facts Go.RowKit Go.ChangeShapes Go.WideShapes Go.ChangeAt Go.WideMaps Go.WideElems
namespace Glue
def laidList : List (String × DataW Unit) := [("pandect/unit.names", Rows.laid_pandect_unit_names), ("pandect/unit.below", Rows.laid_pandect_unit_below)]
theorem gNames : Tryz.prog.globalNamed "pandect/unit.names" = some 0 := by kernel_rfl
theorem gBelow : Tryz.prog.globalNamed "pandect/unit.below" = some 1 := by kernel_rfl
theorem tNames : (Tryz.prog.globals[0]?).map (·.type) = some 146 := by kernel_rfl
theorem tBelow : (Tryz.prog.globals[1]?).map (·.type) = some 153 := by kernel_rfl
theorem door_met (os : Os) (args : Array Value) : laidMetH Tryz.prog laidList ((World.doorLaid Tryz.prog 400 os).forCall (fun _ _ => 0) ⟨#[], args, []⟩).memory :=
 laidMetH_of_parts3 (fuel := 8) (laidMet_of_run' 8 (by kernel_rfl) (by kernel_rfl)) (by kernel_rfl) (by kernel_rfl)
theorem globOK_laid {W : World} (h : laidMetH Tryz.prog laidList W) : zwl W := by
 rw [MakeChecks.laidMetH_plain _ _ _ (by kernel_rfl)] at h
 obtain ⟨ps, ⟨g0, t0, cs0, f0, p0, q0, hg0, ht0, hv0, hd0, ⟨g1, t1, cs1, f1, p1, q1, hg1, ht1, hv1, hd1, _, _⟩, _⟩, _, _⟩ := h
 obtain rfl := Option.some.inj (gNames.symm.trans hg0)
 obtain rfl := Option.some.inj (gBelow.symm.trans hg1)
 obtain rfl := Option.some.inj (tNames.symm.trans ht0)
 obtain rfl := Option.some.inj (tBelow.symm.trans ht1)
 have r0 : rel (z7u W) (globD 0) (.pointer (some ⟨0, 0, none⟩)) := zkz hg0 hv0 hd0 (by kernel_rfl)
 have r1 : rel (z7u W) (globD 1) (.pointer (some ⟨1, 0, none⟩)) := zkz hg1 hv1 hd1 (by kernel_rfl)
 intro g
 match g with
 | 0 => first | exact r0 | exact r1
 | 1 => first | exact r0 | exact r1
 | n + 2 => simp only [globD, rel]
end Glue
end Go.Proofs.YtfechgagcgbldaaGreatDoor
namespace Go.Proofs.YtfechgagcgbldaaGreatDoor
section
open Abs
namespace Tr
structure Idv where
 act : Int
 item : Int
 n : Int
instance : DecidableEq Idv := fun a b => decidable_of_iff (a.act = b.act /\ a.item = b.item /\ a.n = b.n) ⟨fun ⟨h1, h2, h3⟩ => by cases a; cases b; simp_all, fun h => by subst h; exact ⟨rfl, rfl, rfl⟩⟩
def Idv.zero : Idv := ⟨0, 0, 0⟩
structure Wd where
 text : ByteArray
 by_ : Idv
instance : DecidableEq Wd := fun a b => decidable_of_iff (a.text = b.text /\ a.by_ = b.by_) ⟨fun ⟨h1, h2⟩ => by cases a; cases b; simp_all, fun h => by subst h; exact ⟨rfl, rfl⟩⟩
inductive T where
 | mk (id : Idv) (kind : Int) (label : ByteArray) (head words : List Wd) (kids : List T)
def T.id : T -> Idv | .mk i _ _ _ _ _ => i
def T.kind : T -> Int | .mk _ k _ _ _ _ => k
def T.label : T -> ByteArray | .mk _ _ l _ _ _ => l
def T.head : T -> List Wd | .mk _ _ _ h _ _ => h
def T.words : T -> List Wd | .mk _ _ _ _ w _ => w
def T.kids : T -> List T | .mk _ _ _ _ _ k => k
theorem T.eta (t : T) : T.mk t.id t.kind t.label t.head t.words t.kids = t := by cases t; rfl
mutual
theorem z4l {p : T -> Prop} (h : ∀ t, (∀ k ∈ t.kids, p k) -> p t) : ∀ t, p t
 | .mk i k l a b ks => h (.mk i k l a b ks) (ind2 h ks)
theorem ind2 {p : T -> Prop} (h : ∀ t, (∀ k ∈ t.kids, p k) -> p t) : ∀ (ks : List T), ∀ k ∈ ks, p k
 | [], k, O => by cases O
 | t :: ts, k, O => by
  rcases List.mem_cons.1 O with e | O
  ·rw [e]; exact z4l h t
  ·exact ind2 h ts k O
end
mutual
def zf2 {β : Type} (f : T -> List β -> β) : T -> β
 | .mk i k l a b ks => f (.mk i k l a b ks) (recL f ks)
def recL {β : Type} (f : T -> List β -> β) : List T -> List β
 | [] => []
 | t :: ts => zf2 f t :: recL f ts
end
theorem zu1 {β : Type} (f : T -> List β -> β) : ∀ ks, recL f ks = ks.map (zf2 f)
 | [] => rfl
 | t :: ts => by simp [recL, zu1 f ts]
theorem z3k {β : Type} (f : T -> List β -> β) (t : T) : zf2 f t = f t (t.kids.map (zf2 f)) := by
 cases t with
 | mk i k l a b ks => rw [zf2, zu1]; rfl
end Tr
namespace Abs
open Tr
def cellsId (i : Idv) : List D := [.int .i64 i.act, .int .i64 i.item, .int .i64 i.n]
def z50 (i : Idv) : D := .agg (cellsId i)
def z2d (l : List Idv) : D := .rsl false 3 (l.map z50)
def z7y (w : Wd) : List D := [.str w.text, .int .i64 w.by_.act, .int .i64 w.by_.item, .int .i64 w.by_.n]
def encWd (w : Wd) : D := .agg (z7y w)
def z0t (l : List Wd) : D := .rsl false 4 (l.map encWd)
def zu2 (t : T) (ks : List (List D)) : List D := [.int .i64 t.id.act, .int .i64 t.id.item, .int .i64 t.id.n, .int .i64 t.kind, .str t.label, z0t t.head, z0t t.words, .rsl false 8 (ks.map .agg)]
def z08 (t : T) : List D := zf2 zu2 t
def z1e (t : T) : D := .agg (z08 t)
def z0n (l : List T) : D := .rsl false 8 (l.map z1e)
theorem z0s (t : T) : z08 t = [.int .i64 t.id.act, .int .i64 t.id.item, .int .i64 t.id.n, .int .i64 t.kind, .str t.label, z0t t.head, z0t t.words, z0n t.kids] := by
 unfold z08
 rw [z3k, zu2, List.map_map]; rfl
@[go_sem] theorem z2u (t : T) : (z08 t).length = 8 := by rw [z0s]; rfl
@[go_sem] theorem cellsU_kind (t : T) : (z08 t)[3]? = some (.int .i64 t.kind) := by rw [z0s]; rfl
@[go_sem] theorem cellsU_label (t : T) : (z08 t)[4]? = some (.str t.label) := by rw [z0s]; rfl
@[go_sem] theorem cellsU_head (t : T) : (z08 t)[5]? = some (z0t t.head) := by rw [z0s]; rfl
@[go_sem] theorem cellsU_words (t : T) : (z08 t)[6]? = some (z0t t.words) := by rw [z0s]; rfl
@[go_sem] theorem cellsU_kids (t : T) : (z08 t)[7]? = some (z0n t.kids) := by rw [z0s]; rfl
@[go_sem] theorem cellsU_id (t : T) : List.take 3 (z08 t) = [.int .i64 t.id.act, .int .i64 t.id.item, .int .i64 t.id.n] := by rw [z0s]; rfl
@[go_sem] theorem cellsU_take (t : T) : List.take 8 (z08 t) = z08 t := List.take_of_length_le (by rw [z2u]; exact Nat.le_refl _)
@[go_sem] theorem zyr (a b c d e f g h : D) (t : T) : z18 [a, b, c, d, e, f, g, h] 0 (z08 t) = z08 t := by
 rw [z0s]; rfl
@[go_sem] theorem zys (t : T) : z1e t = .agg (z08 t) := rfl
@[go_sem] theorem encWd_agg (w : Wd) : encWd w = .agg [.str w.text, .int .i64 w.by_.act, .int .i64 w.by_.item, .int .i64 w.by_.n] := rfl
@[go_sem] theorem encId_agg (i : Idv) : z50 i = .agg [.int .i64 i.act, .int .i64 i.item, .int .i64 i.n] := rfl
theorem z0r (l : List Wd) : pureD (z0t l) = true := by simp only [z0t, pureD]; exact z0g (fun _ => rfl) l
theorem zam (l : List Idv) : pureD (z2d l) = true := by simp only [z2d, pureD]; exact z0g (fun _ => rfl) l
theorem zoa {f : T -> D} : ∀ {l : List T}, (∀ t ∈ l, pureD (f t) = true) -> pureD.pureL (l.map f) = true
 | [], _ => rfl
 | t :: l, h => by
  simp only [List.map_cons, pureD.pureL, Bool.and_eq_true]
  exact ⟨h t (by simp), zoa fun k O => h k (List.mem_cons_of_mem _ O)⟩
theorem z0b : ∀ t, pureD (z1e t) = true := by
 refine z4l fun t ih => ?_
 rw [z1e, z0s]
 have O : pureD (z0n t.kids) = true := by simp only [z0n, pureD]; exact zoa ih
 simp only [pureD, pureD.pureL, Bool.true_and, Bool.and_true, z0r, O]
theorem z2a (t : T) : pureD.pureL (z08 t) = true := by have := z0b t; simpa only [z1e, pureD] using this
theorem z5r (l : List T) : pureD (z0n l) = true := by simp only [z0n, pureD]; exact z0g z0b l
@[go_sem] theorem pureL_encU (l : List T) : pureD.pureL (l.map z1e) = true := z0g z0b l
@[go_sem] theorem pureL_encWd (l : List Wd) : pureD.pureL (l.map encWd) = true := z0g (fun _ => rfl) l
@[go_sem] theorem pureL_encId (l : List Idv) : pureD.pureL (l.map z50) = true := z0g (fun _ => rfl) l
attribute [go_sem] z2a
@[go_sem] theorem idEq (i j : Idv) : (decide (i.act = j.act) && (decide (i.item = j.item) && decide (i.n = j.n))) = decide (i = j) := by
 obtain ⟨a, b, c⟩ := i; obtain ⟨a', b', c'⟩ := j
 rw [Bool.eq_iff_iff]; simp [Idv.mk.injEq]
@[go_sem] theorem idEq' (i j : Idv) : (decide (i.act = j.act) && decide (i.item = j.item) && decide (i.n = j.n)) = decide (i = j) := by rw [Bool.and_assoc, idEq]
@[go_sem] theorem idZ (i : Idv) : (decide (i.act = 0) && (decide (i.item = 0) && decide (i.n = 0))) = decide (i = Idv.zero) := idEq i Idv.zero
@[go_sem] theorem idZ' (i : Idv) : (decide (i.act = 0) && decide (i.item = 0) && decide (i.n = 0)) = decide (i = Idv.zero) := idEq' i Idv.zero
@[go_sem] theorem wdEq (u v : Wd) : (decide (u.text = v.text) && decide (u.by_ = v.by_)) = decide (u = v) := by
 obtain ⟨a, b⟩ := u; obtain ⟨a', b'⟩ := v
 rw [Bool.eq_iff_iff]; simp [Wd.mk.injEq]
end Abs
end
open _root_.Go.Proofs.Tryz
section
open Abs Facts Tr
attribute [local irreducible] awp
namespace Tr
def z8o (l : List Wd) : Bool := l.all (fun w => decide (w.text.size <= 100)) && decide (l.length <= 300)
def zf0 (t : T) : Bool := zf2 (fun t l => decide (t.label.size <= 30) && (z8o t.head && (z8o t.words && l.all id))) t
theorem zk2 (t : T) : zf0 t = (decide (t.label.size <= 30) && (z8o t.head && (z8o t.words && t.kids.all zf0))) := by
 unfold zf0
 rw [z3k, List.all_map]; rfl
theorem za8 {α : Type} {f : α -> Bool} {l : List α} {k : Nat} (O : k < l.length) (h : f l[k] = false) : l.all f = false := List.all_eq_false.2 ⟨_, List.getElem_mem O, by simp [h]⟩
theorem z6m {α : Type} {f : α -> Bool} {l : List α} {k : Nat} (O : k < l.length) (h : (l.take k).all f = true) (h2 : f l[k] = true) : (l.take (k + 1)).all f = true := by
 rw [List.take_succ_eq_append_getElem O, List.all_append, h, List.all_cons, h2]; rfl
theorem z6n {α : Type} {f : α -> Bool} {l : List α} {k : Nat} (O : ¬ k < l.length) (h : (l.take k).all f = true) : l.all f = true := by rwa [List.take_of_length_le (by omega)] at h
end Tr
theorem zo7 (l : List Wd) (hl : l.length <= maxLen) : PC prog 64 [z0t l] (.bool (z8o l)) := by
 unfold maxLen at hl
 refine z2i 1 (by simp only [pureD.pureL, z0r, Bool.and_self]) rfl (z23 [] func64 rfl (by decide +kernel) rfl ?_)
 show awp _ _ (Code.seq _ _) _ _
 repeat' (first | refine nxt ?_ | ((refine zqh fun K hK => ?_); (simp (disch := omega) only [go_sem, z0t])) | (refine hK _ ?_; clear hK K))
 (refine z45 (fun U st => ∃ (k : _), U = l.length - k /\ st.t 0 = z0t l /\ st.t 3 = .int .i64 k /\ (k <= l.length) /\ ((l.take k).all (fun w => decide (w.text.size <= 100)) = true)) ?_ ?_); rotate_left; (rintro U st ⟨k, rfl, s0, s3, sp0, sp1⟩); rotate_left
 ·(refine ⟨_, 0, rfl, ?_⟩); (simp (disch := omega) only [go_sem, Nat.reduceBEq, true_and, Int.natCast_zero, z0t])
  try simp
 repeat' (first | refine nxt ?_ | ((first | refine zqh fun K hK => ?_ | refine zqr fun K hK => ?_); (simp (disch := omega) only [go_sem, Nat.reduceBEq, ↓reduceIte, reduceCtorEq, Nat.reduceAdd, s0, s3, z0t])) | ((first | refine zqd _ rfl (fun hc => ?_) (fun hc => ?_) | refine zqm _ rfl (fun hc => ?_) (fun hc => ?_)) <;> (((try simp only [z06] at hc); (try omega)))) | refine zqz ?_ | refine zqu (by simp only [go_sem]; rfl) rfl ?_ | (refine hK _ ?_; clear hK K))
 ·have O : k < l.length := by omega
  refine z00 ?_
  have : l.all (fun w => decide (w.text.size <= 100)) = false := za8 O (decide_eq_false (by omega))
  simp only [z8o, this]; rfl
 ·have O : k < l.length := by omega
  (refine Exists.intro _ (And.intro ?_ ⟨k + 1, rfl, ?_⟩)); rotate_left; (simp (disch := omega) only [go_sem, Nat.reduceBEq, s0, s3, true_and, Int.natCast_add, Int.natCast_one]); rotate_left
  ·omega
  ·exact ⟨by omega, z6m O sp1 (decide_eq_true (by omega))⟩
 ·have := z6n (by omega) sp1
  refine z00 ?_
  simp only [z8o, this, Bool.true_and]
  congr 1; simp only [eq_iff_iff]; omega
namespace Tr
def zic (t : T) : Bool := zf2 (fun t l => decide (t.head.length <= maxLen) && (decide (t.words.length <= maxLen) && (decide (t.kids.length <= maxLen) && l.all id))) t
theorem z8p (t : T) : zic t = true ↔ t.head.length <= maxLen /\ t.words.length <= maxLen /\ t.kids.length <= maxLen /\ ∀ k ∈ t.kids, zic k = true := by
 unfold zic
 rw [z3k]
 simp only [List.all_map, Bool.and_eq_true, decide_eq_true_iff, List.all_eq_true]
 rfl
def z1w (deep most : Int) : List (Int -> Int -> Int) -> Int -> Int
 | [], n => n
 | f :: fs, n => if n <= most then z1w deep most fs (n + f (deep + 1) (most - n)) else n
def z3e (t : T) : Int -> Int -> Int := zf2 (fun _ l deep most => if 20 < deep then most + 1 else z1w deep most l 1) t
theorem zid (t : T) (deep most : Int) : z3e t deep most = if 20 < deep then most + 1 else z1w deep most (t.kids.map z3e) 1 := by
 unfold z3e; rw [z3k]
theorem zco (deep most : Int) (f : Int -> Int -> Int) : ∀ (l : List (Int -> Int -> Int)) (n : Int), z1w deep most l n <= most -> z1w deep most (l ++ [f]) n = z1w deep most l n + f (deep + 1) (most - z1w deep most l n)
 | [], n, h => by simp only [z1w] at h; simp only [List.nil_append, z1w]; rw [if_pos h]
 | g :: l, n, h => by
  simp only [List.cons_append, z1w] at h ⊢
  split at h
  ·rename_i hn
   simp only [hn, if_true]
   exact zco deep most f l _ h
  ·omega
theorem zcp (deep most : Int) : ∀ (l r : List (Int -> Int -> Int)) (n : Int), most < z1w deep most l n -> z1w deep most (l ++ r) n = z1w deep most l n
 | [], r, n, h => by
  simp only [z1w] at h
  simp only [List.nil_append]
  cases r with
  | nil => rfl
  | cons f r => simp only [z1w]; rw [if_neg (by omega)]
 | g :: l, r, n, h => by
  simp only [List.cons_append, z1w] at h ⊢
  split
  ·rename_i hn
   simp only [hn, if_true] at h
   exact zcp deep most l r _ h
  ·rfl
theorem z8q {deep most : Int} : ∀ (l : List T), (∀ k ∈ l, ∀ (deep most : Int), 0 <= most -> 1 <= z3e k deep most /\ z3e k deep most <= most + 1) -> ∀ n : Int, 1 <= n -> n <= most + 1 -> 1 <= z1w deep most (l.map z3e) n /\ z1w deep most (l.map z3e) n <= most + 1
 | [], _, n, h1, h2 => ⟨h1, h2⟩
 | k :: l, O, n, h1, h2 => by
  simp only [List.map_cons, z1w]
  split
  ·have := O k (by simp) (deep + 1) (most - n) (by omega)
   exact z8q l (fun q hq => O q (List.mem_cons_of_mem _ hq)) _ (by omega) (by omega)
  ·exact ⟨h1, h2⟩
theorem z6o : ∀ (t : T) (deep most : Int), 0 <= most -> 1 <= z3e t deep most /\ z3e t deep most <= most + 1 := by
 refine z4l fun t ih deep most hm => ?_
 rw [zid]
 split
 ·omega
 ·exact z8q t.kids ih 1 (by omega) (by omega)
end Tr
theorem zym : ∀ t : T, zic t = true -> PC prog 28 [z1e t] (.bool (zf0 t)) := by
 refine z4l fun t ih hfit => ?_
 obtain ⟨h1, h2, h3, h4⟩ := (z8p t).1 hfit
 have ih := fun k O => ih k O (h4 k O)
 have hsh := zo7 t.head h1
 have hsw := zo7 t.words h2
 unfold maxLen at h1 h2 h3
 rw [zk2]
 refine z2i 1 (by simp only [pureD.pureL, z0b, Bool.and_self]) rfl (z23 [] func28 rfl (by decide +kernel) rfl ?_)
 show awp _ _ (Code.seq _ _) _ _
 repeat' (first | refine nxt ?_ | ((first | refine zqh fun K hK => ?_ | refine zqs (hsh) ?_ | refine zqs (hsw) ?_); (simp (disch := omega) only [go_sem, Nat.reduceBEq, ↓reduceIte, reduceCtorEq, Nat.reduceAdd])) | (refine zqd _ rfl ?_ ?_ <;> intro hc <;> (first | (cases hc; done) | ((try simp only [z06] at hc); (try omega)))) | refine zqu (by simp only [go_sem]; rfl) rfl ?_ | (refine hK _ ?_; clear hK K) | (refine zqf (fun hb => ?_) (fun hb => ?_) <;> (have hb2 := hb; try simp only [z06] at hb2) <;> ((first | have F : (_ : Bool) = _ := hb2 | have F := eq_false hb2 | have F := eq_true hb2); (simp (disch := omega) only [go_sem, Nat.reduceBEq, ↓reduceIte, reduceCtorEq, Nat.reduceAdd, F]); clear hb F; (try omega))))
 rotate_right
 all_goals first | exact z00 (by simp_all; try omega) | skip
 have hlab : decide (t.label.size <= 30) = true := decide_eq_true (by omega)
 rw [hlab, ‹z8o t.head = true›, ‹z8o t.words = true›, Bool.true_and, Bool.true_and, Bool.true_and]
 (refine z45 (fun U st => ∃ (i : _), U = t.kids.length - i /\ st.t 1 = .ptr 0 0 /\ st.t 3 = .int .i64 i /\ st.H 0 = some (.box 27 (z08 t)) /\ (i <= t.kids.length) /\ ((t.kids.take i).all zf0 = true) /\ (1 <= st.nx)) ?_ ?_); rotate_left; (rintro U st ⟨i, rfl, s1, s3, sH0, sp0, sp1, sp2⟩); rotate_left
 ·(refine ⟨_, 0, rfl, ?_⟩); (simp (disch := omega) only [go_sem, Nat.reduceBEq, Nat.reduceLeDiff, true_and, and_true, Int.natCast_zero])
  try simp
 have hin := fun (h : i < t.kids.length) => ih t.kids[i] (List.getElem_mem h)
 repeat' (first | refine nxt ?_ | ((first | refine zqh fun K hK => ?_ | refine zqr fun K hK => ?_ | refine zqs (hin (by omega)) ?_); (simp (disch := omega) only [go_sem, Nat.reduceBEq, ↓reduceIte, reduceCtorEq, Nat.reduceAdd, s1, s3, sH0, z0n])) | ((first | refine zqd _ rfl (fun hc => ?_) (fun hc => ?_) | refine zqm _ rfl (fun hc => ?_) (fun hc => ?_)) <;> (((try simp only [z06] at hc); (try omega)))) | refine zqz ?_ | refine zqu (by simp only [go_sem]; rfl) rfl ?_ | (refine hK _ ?_; clear hK K))
 ·exact z00 (za8 (k := i) (by omega) (by assumption)).symm
 ·(refine Exists.intro _ (And.intro ?_ ⟨i + 1, rfl, ?_⟩)); rotate_left; (simp (disch := omega) only [go_sem, Nat.reduceBEq, s1, s3, sH0, true_and, Int.natCast_add, Int.natCast_one]); rotate_left
  ·omega
  ·exact ⟨by omega, z6m (by omega) sp1 (by assumption), by omega⟩
 ·exact z00 (z6n (by omega) sp1).symm
theorem pc_size : ∀ t : T, zic t = true -> ∀ deep most : Int, 0 <= deep -> deep <= 21 -> 0 <= most -> most <= 1000 -> PC prog 27 [z1e t, .int .i64 deep, .int .i64 most] (.int .i64 (z3e t deep most)) := by
 refine z4l fun t ih hfit deep most hd0 hd1 hm0 hm1 => ?_
 obtain ⟨h1, h2, h3, h4⟩ := (z8p t).1 hfit
 unfold maxLen at h1 h2 h3
 have hb := z6o t deep most hm0
 rw [zid] at hb ⊢
 refine z2i 1 (by simp only [pureD.pureL, z0b, pureD, Bool.and_self]) rfl (z23 [] func27 rfl (by decide +kernel) rfl ?_)
 show awp _ _ (Code.seq _ _) _ _
 repeat' (first | refine nxt ?_ | ((refine zqh fun K hK => ?_); (simp (disch := omega) only [go_sem, Nat.reduceBEq, ↓reduceIte])) | (refine zqd _ rfl ?_ ?_ <;> intro hc <;> (((try simp only [z06] at hc); (try omega)))) | refine zqu (by simp only [go_sem]; rfl) rfl ?_ | (refine hK _ ?_; clear hK K))
 ·refine z1q ?_
  rw [if_pos (by assumption)]
 ·rw [if_neg (by assumption)] at hb ⊢
  (refine z45 (fun U st => ∃ (i : _), U = t.kids.length - i /\ st.t 1 = .int .i64 deep /\ st.t 2 = .int .i64 most /\ st.t 3 = .ptr 0 0 /\ st.t 7 = .int .i64 (z1w deep most ((t.kids.take i).map z3e) 1) /\ st.t 8 = .int .i64 i /\ st.H 0 = some (.box 27 (z08 t)) /\ (i <= t.kids.length) /\ (1 <= st.nx)) ?_ ?_); rotate_left; (rintro U st ⟨i, rfl, s1, s2, s3, s7, s8, sH0, sp0, sp1⟩); rotate_left
  ·(refine ⟨_, 0, rfl, ?_⟩); (simp (disch := omega) only [go_sem, Nat.reduceBEq, Nat.reduceLeDiff, true_and, and_true, and_self, Int.natCast_zero, List.map_nil])
   try simp [z1w]
  have hin := fun (h : i < t.kids.length) => ih t.kids[i] (List.getElem_mem h) (h4 _ (List.getElem_mem h)) (deep + 1) (most - z1w deep most ((t.kids.take i).map z3e) 1)
  have hpb := z8q (deep := deep) (most := most) (t.kids.take i) (fun k _ => z6o k) 1 (by omega) (by omega)
  have hnext : ∀ h : i < t.kids.length, z1w deep most ((t.kids.take i).map z3e) 1 <= most -> z1w deep most ((t.kids.take (i + 1)).map z3e) 1 = z1w deep most ((t.kids.take i).map z3e) 1 + z3e t.kids[i] (deep + 1) (most - z1w deep most ((t.kids.take i).map z3e) 1) := fun h hle => by
   rw [List.take_succ_eq_append_getElem h, List.map_append, List.map_cons, List.map_nil, zco _ _ _ _ _ hle]
  have hkb := fun (h : i < t.kids.length) => z6o t.kids[i] (deep + 1) (most - z1w deep most ((t.kids.take i).map z3e) 1)
  have hstop : most < z1w deep most ((t.kids.take i).map z3e) 1 -> z1w deep most (t.kids.map z3e) 1 = z1w deep most ((t.kids.take i).map z3e) 1 := fun h => by
   have := zcp deep most ((t.kids.take i).map z3e) ((t.kids.drop i).map z3e) 1 h
   rwa [<- List.map_append, List.take_append_drop] at this
  repeat' (first | refine nxt ?_ | ((first | refine zqh fun K hK => ?_ | refine zqr fun K hK => ?_ | refine zqs (hin (by omega) (by omega) (by omega) (by omega) (by omega)) ?_); (simp (disch := omega) only [go_sem, Nat.reduceBEq, ↓reduceIte, reduceCtorEq, Nat.reduceAdd, s1, s2, s3, s7, s8, sH0, z0n])) | (refine zqd _ rfl ?_ ?_ <;> intro hc <;> (first | (cases hc; done) | ((try simp only [z06] at hc); (try omega)))) | refine zqz ?_ | refine zqu (by simp only [go_sem]; rfl) rfl ?_ | (refine hK _ ?_; clear hK K) | (refine zqf (fun hb => ?_) (fun hb => ?_) <;> (have hb2 := hb; try simp only [z06] at hb2) <;> ((first | have F := eq_false hb2 | have F := eq_true hb2); (simp (disch := omega) only [go_sem, Nat.reduceBEq, ↓reduceIte, F, s2, s7]); clear hb F; (try omega))))
  ·have O := hkb (by omega) (by omega)
   have hn := hnext (by omega) (by assumption)
   (refine Exists.intro _ (And.intro ?_ ⟨i + 1, rfl, ?_⟩)); rotate_left; (simp (disch := omega) only [go_sem, Nat.reduceBEq, s1, s2, s3, s7, s8, sH0, true_and, Int.natCast_add, Int.natCast_one]); rotate_left
   ·omega
   ·rw [hn]
    exact ⟨rfl, by omega, by omega⟩
  ·exact z1q (hstop (by omega)).symm
  ·have : t.kids.take i = t.kids := List.take_of_length_le (by omega)
   rw [this]
   exact z1q rfl
namespace Tr
def fewB (t : T) (most : Int) : Bool := decide (z3e t 0 most <= most) && zf0 t
end Tr
theorem pc_Few (t : T) (hfit : zic t = true) (most : Int) (hm0 : 0 <= most) (hm1 : most <= 1000) : PC prog 11 [z1e t, .int .i64 most] (.bool (fewB t most)) := by
 refine z2i 1 (by simp only [pureD.pureL, z0b, pureD, Bool.and_self]) rfl (z23 [] func11 rfl (by decide +kernel) rfl ?_)
 show awp _ _ (Code.seq _ _) _ _
 have hs := pc_size t hfit 0 most (by omega) (by omega) hm0 hm1
 have hw := zym t hfit
 repeat' (first | ((first | refine zqh fun K hK => ?_ | refine zqs (hs) ?_ | refine zqs (hw) ?_); (simp (disch := omega) only [go_sem, Nat.reduceBEq, ↓reduceIte, Nat.reduceAdd, Nat.reduceLeDiff])) | refine nxt ?_ | refine zqu (by simp only [go_sem]; rfl) rfl ?_ | (refine hK _ ?_; clear hK K) | (refine zqf (fun hb => ?_) (fun hb => ?_) <;> (have hb2 := hb; try simp only [z06] at hb2) <;> ((first | have F := eq_false hb2 | have F := eq_true hb2); (simp (disch := omega) only [go_sem, Nat.reduceBEq, ↓reduceIte, Nat.reduceAdd, Nat.reduceLeDiff, F]); clear hb F; (try omega))))
 ·exact z00 (by unfold fewB; rw [decide_eq_true (by assumption), Bool.true_and])
 ·exact z00 (by unfold fewB; rw [decide_eq_false (by assumption), Bool.false_and])
end
end Go.Proofs.YtfechgagcgbldaaGreatDoor
namespace Go.Proofs.YtfechgagcgbldaaGreatDoor.Glue
open Go.ChangeShapes Go.WideShapes Go.ChangeAt Go.RowKit Abs Facts Tr
section
open Go.ChangeShapes
variable {H : Type} {enc : TypeId × Value -> H} {P : Program} {w : World} {base : Nat} {spare : Nat -> Bool} {held : Bool}
end
theorem ownK : ownKnob Tryz.prog.godebug = none := by kernel_rfl
theorem laidOutK : laidOutB Tryz.prog = true := by kernel_rfl
def S : List TypeId := [4, 3, 9, 23, 80, 82, 24, 27, 25]
set_option maxRecDepth 100000
theorem closedS : zik Tryz.prog S = true := by decide +kernel
theorem zpl {n : Nat} {ds : List D} (h : z3z Tryz.prog n 23 ds) : ∃ i : Idv, ds = cellsId i := by
 obtain ⟨m, rfl, h⟩ := z43 Tryz.underlying23 h
 obtain ⟨d1, r1, rfl, h1, d2, r2, rfl, h2, d3, r3, rfl, h3, rfl⟩ := h
 obtain ⟨i, rfl, _⟩ := z3t Tryz.underlying3 h1
 obtain ⟨j, rfl, _⟩ := z3t Tryz.underlying3 h2
 obtain ⟨k, rfl, _⟩ := z3t Tryz.underlying3 h3
 exact ⟨⟨i, j, k⟩, rfl⟩
theorem zso {n : Nat} {ds : List D} (h : z3z Tryz.prog n 82 ds) : ∃ w : Wd, ds = z7y w := by
 obtain ⟨m, rfl, h⟩ := z43 Tryz.underlying82 h
 obtain ⟨d1, r1, rfl, h1, d2, r2, rfl, h2, rfl⟩ := h
 obtain ⟨s, rfl, _⟩ := z8r Tryz.underlying9 h1
 obtain ⟨m', rfl, h3⟩ := z43 Tryz.underlying80 h2
 obtain ⟨e1, q1, rfl, g1, e2, q2, rfl, g2, e3, q3, rfl, g3, rfl⟩ := h3
 obtain ⟨i, rfl, _⟩ := z3t Tryz.underlying3 g1
 obtain ⟨j, rfl, _⟩ := z3t Tryz.underlying3 g2
 obtain ⟨k, rfl, _⟩ := z3t Tryz.underlying3 g3
 exact ⟨⟨s, ⟨i, j, k⟩⟩, rfl⟩
theorem zga {n : Nat} {ds : List D} (h : z3z Tryz.prog n 24 ds) : ∃ l : List Wd, ds = [z0t l] /\ l.length <= maxLen := by
 obtain ⟨m, parts, rfl, hl, hp, rfl⟩ := z80 Tryz.underlying24 h
 obtain ⟨l, rfl, _⟩ := z46 (f := z7y) (q := fun _ => True) (fun p hp => by obtain ⟨w, e⟩ := zso hp; exact ⟨w, e, trivial⟩) parts hp
 refine ⟨l, ?_, by simpa using hl⟩
 rw [zel, zj5, List.map_map]; rfl
theorem zsp : ∀ (n : Nat) {ds : List D}, z3z Tryz.prog n 27 ds -> ∃ t : T, ds = z08 t /\ zic t = true := by
 intro n
 induction n using Nat.strongRecOn with
 | ind n ih =>
  intro ds h
  obtain ⟨m, rfl, h⟩ := z43 Tryz.underlying27 h
  obtain ⟨d1, r1, rfl, h1, d2, r2, rfl, h2, d3, r3, rfl, h3, d4, r4, rfl, h4, d5, r5, rfl, h5, d6, r6, rfl, h6, rfl⟩ := h
  obtain ⟨i, rfl⟩ := zpl h1
  obtain ⟨k, rfl, _⟩ := z3t Tryz.underlying3 h2
  obtain ⟨s, rfl, _⟩ := z8r Tryz.underlying9 h3
  obtain ⟨a, rfl, ha⟩ := zga h4
  obtain ⟨b, rfl, hb⟩ := zga h5
  obtain ⟨q, parts, rfl, hl, hp, rfl⟩ := z80 Tryz.underlying25 h6
  obtain ⟨l, rfl, hq⟩ := z46 (f := z08) (q := fun t => zic t = true) (fun p hp => ih q (by omega) hp) parts hp
  refine ⟨.mk i k s a b l, ?_, ?_⟩
  ·rw [z0s, z9o, zfh, List.map_map]; rfl
  ·rw [z8p]
   exact ⟨ha, hb, (show l.length <= _ by simpa using hl), hq⟩
section
variable {H : Type} {enc : TypeId × Value -> H} {W : World} {base : Nat} {r : Reach} {b0 : Nat} {spare : Nat -> Bool} {held : Bool} {v : Value} {d : DataW H} {p : List MemPlace}
theorem rd_unit (hv : Value.okWide Tryz.prog W r b0 27 v) (h : DataW.Trod enc Tryz.prog W base spare held 27 v d p) : ∃ t : T, zic t = true /\ rel (z7u W) (z1e t) v := by
 obtain ⟨cs, rfl, _⟩ := okWide_struct Tryz.underlying27 hv
 obtain ⟨m, ds, ht, hr⟩ := zu8 closedS (by decide) h
 obtain ⟨q, rfl, hq⟩ := zsp _ ht
 exact ⟨q, hq, hr⟩
end
end Go.Proofs.YtfechgagcgbldaaGreatDoor.Glue
namespace Go.Proofs.YtfechgagcgbldaaGreatDoor
section
open Abs
namespace Tr
structure Tw where
 state : Int
 text : ByteArray
instance : DecidableEq Tw := fun a b => decidable_of_iff (a.state = b.state /\ a.text = b.text) ⟨fun ⟨h1, h2⟩ => by cases a; cases b; simp_all, fun h => by subst h; exact ⟨rfl, rfl⟩⟩
inductive TT where
 | mk (state kind : Int) (id : Idv) (label was : ByteArray) (moved : Bool) (head words : List Tw) (kids : List TT)
def TT.state : TT -> Int | .mk s _ _ _ _ _ _ _ _ => s
def TT.kind : TT -> Int | .mk _ k _ _ _ _ _ _ _ => k
def TT.id : TT -> Idv | .mk _ _ i _ _ _ _ _ _ => i
def TT.label : TT -> ByteArray | .mk _ _ _ l _ _ _ _ _ => l
def TT.was : TT -> ByteArray | .mk _ _ _ _ w _ _ _ _ => w
def TT.moved : TT -> Bool | .mk _ _ _ _ _ m _ _ _ => m
def TT.head : TT -> List Tw | .mk _ _ _ _ _ _ h _ _ => h
def TT.words : TT -> List Tw | .mk _ _ _ _ _ _ _ w _ => w
def TT.kids : TT -> List TT | .mk _ _ _ _ _ _ _ _ k => k
theorem TT.eta (t : TT) : TT.mk t.state t.kind t.id t.label t.was t.moved t.head t.words t.kids = t := by cases t; rfl
mutual
theorem zcs {p : TT -> Prop} (h : ∀ t, (∀ k ∈ t.kids, p k) -> p t) : ∀ t, p t
 | .mk s k i l w m a b ks => h (.mk s k i l w m a b ks) (tind2 h ks)
theorem tind2 {p : TT -> Prop} (h : ∀ t, (∀ k ∈ t.kids, p k) -> p t) : ∀ (ks : List TT), ∀ k ∈ ks, p k
 | [], k, O => by cases O
 | t :: ts, k, O => by
  rcases List.mem_cons.1 O with e | O
  ·rw [e]; exact zcs h t
  ·exact tind2 h ts k O
end
mutual
def zan {β : Type} (f : TT -> List β -> β) : TT -> β
 | .mk s k i l w m a b ks => f (.mk s k i l w m a b ks) (zyt f ks)
def zyt {β : Type} (f : TT -> List β -> β) : List TT -> List β
 | [] => []
 | t :: ts => zan f t :: zyt f ts
end
theorem zod {β : Type} (f : TT -> List β -> β) : ∀ ks, zyt f ks = ks.map (zan f)
 | [] => rfl
 | t :: ts => by simp [zyt, zod f ts]
theorem z6q {β : Type} (f : TT -> List β -> β) (t : TT) : zan f t = f t (t.kids.map (zan f)) := by
 cases t with
 | mk s k i l w m a b ks => rw [zan, zod]; rfl
end Tr
namespace Abs
open Tr
def z2j (w : Tw) : List D := [.int .i64 w.state, .str w.text]
def zk8 (w : Tw) : D := .agg (z2j w)
def z0q (l : List Tw) : D := .rsl false 2 (l.map zk8)
def zoe (t : TT) (ks : List (List D)) : List D := [.int .i64 t.state, .int .i64 t.kind, .int .i64 t.id.act, .int .i64 t.id.item, .int .i64 t.id.n, .str t.label, .str t.was, .bool t.moved, z0q t.head, z0q t.words, .rsl false 11 (ks.map .agg)]
def z0h (t : TT) : List D := zan zoe t
def z26 (t : TT) : D := .agg (z0h t)
def z17 (l : List TT) : D := .rsl false 11 (l.map z26)
theorem z14 (t : TT) : z0h t = [.int .i64 t.state, .int .i64 t.kind, .int .i64 t.id.act, .int .i64 t.id.item, .int .i64 t.id.n, .str t.label, .str t.was, .bool t.moved, z0q t.head, z0q t.words, z17 t.kids] := by
 unfold z0h
 rw [z6q, zoe, List.map_map]; rfl
@[go_sem] theorem z34 (t : TT) : (z0h t).length = 11 := by rw [z14]; rfl
@[go_sem] theorem zyu (t : TT) : (z0h t)[0]? = some (.int .i64 t.state) := by rw [z14]; rfl
@[go_sem] theorem cellsTT_kind (t : TT) : (z0h t)[1]? = some (.int .i64 t.kind) := by rw [z14]; rfl
@[go_sem] theorem zyv (t : TT) : (z0h t)[5]? = some (.str t.label) := by rw [z14]; rfl
@[go_sem] theorem cellsTT_was (t : TT) : (z0h t)[6]? = some (.str t.was) := by rw [z14]; rfl
@[go_sem] theorem zyw (t : TT) : (z0h t)[7]? = some (.bool t.moved) := by rw [z14]; rfl
@[go_sem] theorem cellsTT_head (t : TT) : (z0h t)[8]? = some (z0q t.head) := by rw [z14]; rfl
@[go_sem] theorem zyx (t : TT) : (z0h t)[9]? = some (z0q t.words) := by rw [z14]; rfl
@[go_sem] theorem cellsTT_kids (t : TT) : (z0h t)[10]? = some (z17 t.kids) := by rw [z14]; rfl
@[go_sem] theorem cellsTT_id (t : TT) : List.take 3 (List.drop 2 (z0h t)) = [.int .i64 t.id.act, .int .i64 t.id.item, .int .i64 t.id.n] := by rw [z14]; rfl
@[go_sem] theorem cellsTT_take (t : TT) : List.take 11 (z0h t) = z0h t := List.take_of_length_le (by rw [z34]; exact Nat.le_refl _)
@[go_sem] theorem zxl (a b c d e f g h i j k : D) (t : TT) : z18 [a, b, c, d, e, f, g, h, i, j, k] 0 (z0h t) = z0h t := by
 rw [z14]; rfl
@[go_sem] theorem z62 (t : TT) : z26 t = .agg (z0h t) := rfl
@[go_sem] theorem encTw_agg (w : Tw) : zk8 w = .agg [.int .i64 w.state, .str w.text] := rfl
theorem z2v (l : List Tw) : pureD (z0q l) = true := by simp only [z0q, pureD]; exact z0g (fun _ => rfl) l
theorem zk9 {f : TT -> D} : ∀ {l : List TT}, (∀ t ∈ l, pureD (f t) = true) -> pureD.pureL (l.map f) = true
 | [], _ => rfl
 | t :: l, h => by
  simp only [List.map_cons, pureD.pureL, Bool.and_eq_true]
  exact ⟨h t (by simp), zk9 fun k O => h k (List.mem_cons_of_mem _ O)⟩
theorem z1h : ∀ t, pureD (z26 t) = true := by
 refine zcs fun t ih => ?_
 rw [z26, z14]
 have O : pureD (z17 t.kids) = true := by simp only [z17, pureD]; exact zk9 ih
 simp only [pureD, pureD.pureL, Bool.true_and, Bool.and_true, z2v, O]
theorem z6r (t : TT) : pureD.pureL (z0h t) = true := by have := z1h t; simpa only [z26, pureD] using this
theorem zao (l : List TT) : pureD (z17 l) = true := by simp only [z17, pureD]; exact z0g z1h l
@[go_sem] theorem pureL_encTT (l : List TT) : pureD.pureL (l.map z26) = true := z0g z1h l
@[go_sem] theorem pureL_encTw (l : List Tw) : pureD.pureL (l.map zk8) = true := z0g (fun _ => rfl) l
attribute [go_sem] z6r
end Abs
end
open _root_.Go.Proofs.Tryz
section
open Abs Facts Tr
attribute [local irreducible] awp
namespace Tr
def bl (s : ByteArray) : List UInt8 := s.data.toList
theorem z1i (s : ByteArray) : (bl s).length = s.size := rfl
def dig (b : UInt8) : Bool := decide (48 <= b.toNat /\ b.toNat <= 57)
def cap (b : UInt8) : Bool := decide (65 <= b.toNat /\ b.toNat <= 90)
def ink (b : UInt8) : Bool := decide (33 <= b.toNat /\ b.toNat <= 126)
def z96 (s : ByteArray) : Nat := ((bl s).takeWhile dig).length
def z4i (s : ByteArray) : Bool := decide (1 <= z96 s /\ z96 s <= 4 /\ ((bl s).headD 0).toNat ≠ 48 /\ s.size - z96 s <= 3) && ((bl s).drop (z96 s)).all cap
def za6 (s : ByteArray) : Bool := decide (1 <= s.size /\ s.size <= 24) && (bl s).all ink
def seqB (l : List ByteArray) : Bool := decide (l.length <= 256) && l.all za6
def zm7 (l : List Wd) : Bool := decide (l.length <= 256) && l.all fun w => za6 w.text
theorem zjf (l : List Wd) : zm7 l = (decide (l.length <= 256) && seqB (l.map (·.text))) := by
 unfold zm7 seqB
 rw [List.length_map, List.all_map]
 cases decide (l.length <= 256) <;> simp [Function.comp_def]
theorem z5o {α : Type} {p : α -> Bool} : ∀ {l : List α} {k : Nat} (_ : k <= l.length), (∀ j, (hj : j < k) -> p (l[j]'(by omega)) = true) -> (∀ h : k < l.length, p l[k] = false) -> (l.takeWhile p).length = k
 | [], k, O, _, _ => by simp at O; simp [O]
 | x :: l, 0, _, _, h2 => by
  have := h2 (by simp)
  simp only [List.getElem_cons_zero] at this
  simp [this]
 | x :: l, k + 1, O, h1, h2 => by
  have h0 := h1 0 (by omega)
  simp only [List.getElem_cons_zero] at h0
  rw [List.takeWhile_cons, if_pos h0, List.length_cons]
  have := z5o (p := p) (l := l) (k := k) (by simpa using O) (fun j hj => by simpa using h1 (j + 1) (by omega)) (fun h => h2 (by simpa using h))
  rw [this]
theorem zd6 (s : ByteArray) : z96 s <= s.size := by
 unfold z96
 rw [<- z1i]
 exact (List.takeWhile_prefix _).length_le
end Tr
theorem bget {s : ByteArray} {i : Nat} (h : i < s.size) : s[i]? = some ((bl s)[i]'h) := getElem?_pos s i h
theorem bhead {s : ByteArray} (h : 0 < s.size) : (bl s)[0]'h = (bl s).headD 0 := by
 have : ∀ (l : List UInt8) (h : 0 < l.length), l[0]'h = l.headD 0 := fun l h => by cases l with
  | nil => exact absurd h (by simp)
  | cons a l => rfl
 exact this _ _
theorem zww (s : ByteArray) (hs : s.size <= maxLen) : PC prog 132 [.str s] (.int .i64 (z96 s)) := by
 unfold maxLen at hs
 refine z2i 1 (by simp only [pureD.pureL, pureD, Bool.and_self]) rfl (z23 [] func132 rfl (by decide +kernel) rfl ?_)
 show awp _ _ (Code.seq _ _) _ _
 repeat' (first | ((refine zqh fun K hK => ?_); (simp (disch := omega) only [go_sem])) | refine nxt ?_ | (refine hK _ ?_; clear hK K))
 have hbl := z1i s
 (refine z45 (fun U st => ∃ (k : _), U = s.size - k /\ st.t 0 = .str s /\ st.t 3 = .int .i64 k /\ (k <= s.size) /\ (∀ j, (hj : j < k) -> (h : j < (bl s).length) -> dig (bl s)[j] = true)) ?_ ?_); rotate_left; (rintro U st ⟨k, rfl, s0, s3, sp0, sp1⟩); rotate_left
 ·(refine ⟨_, 0, rfl, ?_⟩); (simp (disch := omega) only [go_sem, Nat.reduceBEq, true_and, Int.natCast_zero])
  exact fun j hj => by omega
 repeat' (first | refine nxt ?_ | ((first | refine zqh fun K hK => ?_ | refine zqr fun K hK => ?_); (simp (disch := omega) only [go_sem, Nat.reduceBEq, ↓reduceIte, s0, s3])) | (refine zqd _ rfl ?_ ?_ <;> intro hc <;> (first | (cases hc; done) | ((try simp only [z06] at hc); (try omega)))) | refine zqz ?_ | refine zqu (by simp only [go_sem]; rfl) rfl ?_ | (refine hK _ ?_; clear hK K) | (refine zqf (fun hb => ?_) (fun hb => ?_) <;> (have hb2 := hb; try simp only [z06] at hb2) <;> ((first | have F := eq_false hb2 | have F := eq_true hb2); (simp (disch := omega) only [go_sem, Nat.reduceBEq, ↓reduceIte, F, s0, s3, bget]); clear hb F; (try omega))))
 ·(refine Exists.intro _ (And.intro ?_ ⟨k + 1, rfl, ?_⟩)); rotate_left; (simp (disch := omega) only [go_sem, Nat.reduceBEq, s0, s3, true_and, Int.natCast_add, Int.natCast_one]); rotate_left
  ·omega
  ·refine ⟨by omega, fun j hj h => ?_⟩
   by_cases e : j = k
   ·subst e; unfold dig; exact decide_eq_true (by omega)
   ·exact sp1 j (by omega) h
 all_goals
  refine z1q ?_
  have := z5o (p := dig) (l := bl s) (k := k) (by omega) (fun j hj => sp1 j hj (by omega)) (fun h => by
   unfold dig; exact decide_eq_false (by omega))
  unfold z96; rw [this]
theorem pc_Word (s : ByteArray) (hs : s.size <= maxLen) : PC prog 137 [.str s] (.bool (za6 s)) := by
 unfold maxLen at hs
 refine z2i 1 (by simp only [pureD.pureL, pureD, Bool.and_self]) rfl (z23 [] func137 rfl (by decide +kernel) rfl ?_)
 show awp _ _ (Code.seq _ _) _ _
 repeat' (first | refine nxt ?_ | ((refine zqh fun K hK => ?_); (simp (disch := omega) only [go_sem, Nat.reduceBEq, ↓reduceIte])) | (refine zqd _ rfl ?_ ?_ <;> intro hc <;> (first | (cases hc; done) | ((try simp only [z06] at hc); (try omega)))) | refine zqu (by simp only [go_sem]; rfl) rfl ?_ | (refine hK _ ?_; clear hK K) | (refine zqf (fun hb => ?_) (fun hb => ?_) <;> (have hb2 := hb; try simp only [z06] at hb2) <;> ((first | have F := eq_false hb2 | have F := eq_true hb2); (simp (disch := omega) only [go_sem, Nat.reduceBEq, ↓reduceIte, F]); clear hb F; (try omega))))
 ·exact z00 (by unfold za6; rw [decide_eq_false (by omega)]; rfl)
 ·rw [show za6 s = (bl s).all ink from by unfold za6; rw [decide_eq_true (by omega)]; rfl]
  (refine z45 (fun U st => ∃ (k : _), U = s.size - k /\ st.t 0 = .str s /\ st.t 3 = .int .i64 k /\ (k <= s.size) /\ (((bl s).take k).all ink = true)) ?_ ?_); rotate_left; (rintro U st ⟨k, rfl, s0, s3, sp0, sp1⟩); rotate_left
  ·(refine ⟨_, 0, rfl, ?_⟩); (simp (disch := omega) only [go_sem, Nat.reduceBEq, true_and, Int.natCast_zero])
   simp
  have hbl := z1i s
  repeat' (first | refine nxt ?_ | ((first | refine zqh fun K hK => ?_ | refine zqr fun K hK => ?_); (simp (disch := omega) only [go_sem, Nat.reduceBEq, ↓reduceIte, s0, s3, bget])) | ((first | refine zqd _ rfl (fun hc => ?_) (fun hc => ?_) | refine zqm _ rfl (fun hc => ?_) (fun hc => ?_)) <;> (first | (cases hc; done) | ((try simp only [z06] at hc); (try omega)))) | refine zqz ?_ | refine zqu (by simp only [go_sem]; rfl) rfl ?_ | (refine hK _ ?_; clear hK K) | (refine zqf (fun hb => ?_) (fun hb => ?_) <;> (have hb2 := hb; try simp only [z06] at hb2) <;> ((first | have F := eq_false hb2 | have F := eq_true hb2); (simp (disch := omega) only [go_sem, Nat.reduceBEq, ↓reduceIte, F, s0, s3, bget]); clear hb F; (try omega))))
  ·exact z00 (za8 (k := k) (by omega) (by unfold ink; exact decide_eq_false (by omega))).symm
  ·(refine Exists.intro _ (And.intro ?_ ⟨k + 1, rfl, ?_⟩)); rotate_left; (simp (disch := omega) only [go_sem, Nat.reduceBEq, s0, s3, true_and, Int.natCast_add, Int.natCast_one]); rotate_left
   ·omega
   ·exact ⟨by omega, z6m (by omega) sp1 (by unfold ink; exact decide_eq_true (by omega))⟩
  ·exact z00 (za8 (k := k) (by omega) (by unfold ink; exact decide_eq_false (by omega))).symm
  ·exact z00 (z6n (by omega) sp1).symm
 ·exact z00 (by unfold za6; rw [decide_eq_false (by omega)]; rfl)
theorem pc_Seq (l : List ByteArray) (hl : l.length <= maxLen) (hs : ∀ s ∈ l, s.size <= maxLen) : PC prog 131 [z2b l] (.bool (seqB l)) := by
 unfold maxLen at hl
 refine z2i 1 (by simp only [pureD.pureL, z31, Bool.and_self]) rfl (z23 [] func131 rfl (by decide +kernel) rfl ?_)
 show awp _ _ (Code.seq _ _) _ _
 have hw := fun (i : Nat) (h : i < l.length) => pc_Word l[i] (hs _ (List.getElem_mem h))
 repeat' (first | refine nxt ?_ | ((refine zqh fun K hK => ?_); (simp (disch := omega) only [go_sem, Nat.reduceBEq, ↓reduceIte, z2b])) | (refine zqd _ rfl ?_ ?_ <;> intro hc <;> (((try simp only [z06] at hc); (try omega)))) | refine zqu (by simp only [go_sem]; rfl) rfl ?_ | (refine hK _ ?_; clear hK K))
 ·exact z00 (by unfold seqB; rw [decide_eq_false (by omega)]; rfl)
 ·rw [show seqB l = l.all za6 from by unfold seqB; rw [decide_eq_true (by omega)]; rfl]
  (refine z45 (fun U st => ∃ (k : _), U = l.length - k /\ st.t 0 = z2b l /\ st.t 3 = .int .i64 k /\ (k <= l.length) /\ ((l.take k).all za6 = true)) ?_ ?_); rotate_left; (rintro U st ⟨k, rfl, s0, s3, sp0, sp1⟩); rotate_left
  ·(refine ⟨_, 0, rfl, ?_⟩); (simp (disch := omega) only [go_sem, Nat.reduceBEq, true_and, Int.natCast_zero, z2b])
   simp
  repeat' (first | refine nxt ?_ | ((first | refine zqh fun K hK => ?_ | refine zqr fun K hK => ?_ | refine zqs (hw k (by omega)) ?_); (simp (disch := omega) only [go_sem, Nat.reduceBEq, ↓reduceIte, reduceCtorEq, Nat.reduceAdd, s0, s3, z2b])) | ((first | refine zqd _ rfl (fun hc => ?_) (fun hc => ?_) | refine zqm _ rfl (fun hc => ?_) (fun hc => ?_)) <;> (((try simp only [z06] at hc); (try omega)))) | refine zqz ?_ | refine zqu (by simp only [go_sem]; rfl) rfl ?_ | (refine hK _ ?_; clear hK K))
  ·exact z00 (za8 (k := k) (by omega) (by assumption)).symm
  ·(refine Exists.intro _ (And.intro ?_ ⟨k + 1, rfl, ?_⟩)); rotate_left; (simp (disch := omega) only [go_sem, Nat.reduceBEq, s0, s3, true_and, Int.natCast_add, Int.natCast_one]); rotate_left
   ·omega
   ·exact ⟨by omega, z6m (by omega) sp1 (by assumption)⟩
  ·exact z00 (z6n (by omega) sp1).symm
theorem pc_Texts (l : List Wd) (hl : l.length <= 1000000) : PC prog 59 [z0t l] (z2b (l.map (·.text))) := by
 refine z2i 2 (by simp only [pureD.pureL, z0r, Bool.and_self]) (z31 _) (z23 [5] func59 rfl (by decide +kernel) rfl ?_)
 show awp _ _ (Code.seq _ _) _ _
 repeat' (first | refine nxt ?_ | ((refine zqh fun K hK => ?_); (simp (disch := omega) only [go_sem, Nat.reduceBEq, ↓reduceIte, reduceCtorEq, z0t])) | (refine hK _ ?_; clear hK K))
 (refine z45 (fun U st => ∃ (k : _), U = l.length - k /\ st.t 0 = z0t l /\ st.t 3 = .osl 0 k /\ st.t 4 = .int .i64 k /\ st.H 0 = some (.row 9 k (((l.take k).map (·.text)).map .str)) /\ (k <= l.length)) ?_ ?_); rotate_left; (rintro U st ⟨k, rfl, s0, s3, s4, sH0, sp0⟩); rotate_left
 ·(refine ⟨_, 0, rfl, ?_⟩); (simp (disch := omega) only [go_sem, Nat.reduceBEq, and_self, Int.natCast_zero, List.map_nil, z0t])
  try simp
 have htk : ∀ h : k < l.length, l.take (k + 1) = l.take k ++ [l[k]] := fun h => List.take_succ_eq_append_getElem h
 repeat' (first | refine nxt ?_ | ((first | refine zqh fun K hK => ?_ | refine zqr fun K hK => ?_); (simp (disch := omega) only [go_sem, Nat.reduceBEq, ↓reduceIte, reduceCtorEq, Nat.reduceAdd, Nat.reduceLeDiff, Nat.reduceLT, s0, s3, s4, sH0, z0t])) | (refine zqd _ rfl ?_ ?_ <;> intro hc <;> (((try simp only [z06] at hc); (try omega)))) | refine zqz ?_ | refine zqu (by simp only [go_sem]; rfl) rfl ?_ | (refine hK _ ?_; clear hK K))
 ·have htk := htk (by omega)
  (refine Exists.intro _ (And.intro ?_ ⟨k + 1, rfl, ?_⟩)); rotate_left; (simp (disch := omega) only [go_sem, Nat.reduceBEq, s0, s3, s4, sH0, true_and, Int.natCast_add, Int.natCast_one, List.map_append, List.map_cons, List.map_nil, htk]); rotate_left
  ·omega
  ·omega
 ·have O : k = l.length := by omega
  subst O
  rw [List.take_length] at sH0
  have h2 : l.length = ((l.map (·.text))).length := by simp
  rw [h2] at sH0 ⊢
  exact z6f (z7t 0 sH0 z87 zbt (by simp) (zer _))
theorem zwx (l : List Wd) (hl : l.length <= 1000000) (hs : ∀ w ∈ l, w.text.size <= maxLen) : PC prog 122 [z0t l] (.bool (zm7 l)) := by
 refine z2i 1 (by simp only [pureD.pureL, z0r, Bool.and_self]) rfl (z23 [] func122 rfl (by decide +kernel) rfl ?_)
 show awp _ _ (Code.seq _ _) _ _
 have h1 := pc_Texts l hl
 have h2 := pc_Seq (l.map (·.text)) (by unfold maxLen; simp; omega) (fun s hs' => by obtain ⟨w, hw, rfl⟩ := List.mem_map.1 hs'; exact hs w hw)
 rw [zjf]
 simp only [z2b, List.map_map] at h1 h2
 repeat' (first | ((first | refine zqh fun K hK => ?_ | refine zqs (h1) ?_ | refine zqs (h2) ?_); (simp (disch := omega) only [go_sem, Nat.reduceBEq, ↓reduceIte, z0t])) | refine nxt ?_ | refine zqu (by simp only [go_sem]; rfl) rfl ?_ | (refine hK _ ?_; clear hK K) | (refine zqf (fun hb => ?_) (fun hb => ?_) <;> (have hb2 := hb; try simp only [z06] at hb2) <;> ((first | have F := eq_false hb2 | have F := eq_true hb2); (simp (disch := omega) only [go_sem, Nat.reduceBEq, ↓reduceIte, F]); clear hb F; (try omega))))
 ·exact z00 (by rw [decide_eq_true (by omega)]; rfl)
 ·exact z00 (by rw [decide_eq_false (by omega)]; rfl)
theorem pc_Label (s : ByteArray) (hs : s.size <= maxLen) : PC prog 123 [.str s] (.bool (z4i s)) := by
 unfold maxLen at hs
 refine z2i 1 (by simp only [pureD.pureL, pureD, Bool.and_self]) rfl (z23 [] func123 rfl (by decide +kernel) rfl ?_)
 show awp _ _ (Code.seq _ _) _ _
 have h1 := zww s hs
 have hn := zd6 s
 have hbl := z1i s
 have hz : Int.toNat 0 = 0 := rfl
 have hne : ∀ h : 0 < s.size, (bl s)[0].toNat = ((bl s).headD 0).toNat := fun h => congrArg UInt8.toNat (bhead h)
 repeat' (first | refine nxt ?_ | ((first | refine zqh fun K hK => ?_ | refine zqs (h1) ?_); (simp (disch := omega) only [go_sem, Nat.reduceBEq, ↓reduceIte])) | (refine zqd _ rfl ?_ ?_ <;> intro hc <;> (first | (cases hc; done) | ((try simp only [z06] at hc); (try omega)))) | refine zqu (by simp only [go_sem]; rfl) rfl ?_ | (refine hK _ ?_; clear hK K) | (refine zqf (fun hb => ?_) (fun hb => ?_) <;> (have hb2 := hb; try simp only [z06] at hb2) <;> ((first | have F := eq_false hb2 | have F := eq_true hb2); (simp (disch := omega) only [go_sem, Nat.reduceBEq, ↓reduceIte, Int.reduceLE, F, bget, hz]); clear hb F; (try omega))))
 ·exact z00 (by unfold z4i; rw [decide_eq_false (by omega)]; rfl)
 ·have hf := hne (by omega)
  rw [show z4i s = ((bl s).drop (z96 s)).all cap from by unfold z4i; rw [decide_eq_true (by omega)]; rfl]
  (refine z45 (fun U st => ∃ (k : _), U = s.size - k /\ st.t 0 = .str s /\ st.t 4 = .int .i64 k /\ (z96 s <= k) /\ (k <= s.size) /\ ((((bl s).drop (z96 s)).take (k - z96 s)).all cap = true)) ?_ ?_); rotate_left; (rintro U st ⟨k, rfl, s0, s4, sp0, sp1, sp2⟩); rotate_left
  ·(refine ⟨_, z96 s, rfl, ?_⟩); (simp (disch := omega) only [go_sem, Nat.reduceBEq, true_and])
   exact ⟨Nat.le_refl _, by omega, by rw [Nat.sub_self]; rfl⟩
  have O : ∀ h : k < s.size, ((bl s).drop (z96 s))[k - z96 s]'(by rw [List.length_drop, z1i]; omega) = (bl s)[k]'h := fun h => by
   rw [List.getElem_drop]; congr 1; omega
  have hl : ((bl s).drop (z96 s)).length = s.size - z96 s := by rw [List.length_drop, z1i]
  repeat' (first | refine nxt ?_ | ((first | refine zqh fun K hK => ?_ | refine zqr fun K hK => ?_); (simp (disch := omega) only [go_sem, Nat.reduceBEq, ↓reduceIte, s0, s4, bget])) | ((first | refine zqd _ rfl (fun hc => ?_) (fun hc => ?_) | refine zqm _ rfl (fun hc => ?_) (fun hc => ?_)) <;> (first | (cases hc; done) | ((try simp only [z06] at hc); (try omega)))) | refine zqz ?_ | refine zqu (by simp only [go_sem]; rfl) rfl ?_ | (refine hK _ ?_; clear hK K) | (refine zqf (fun hb => ?_) (fun hb => ?_) <;> (have hb2 := hb; try simp only [z06] at hb2) <;> ((first | have F := eq_false hb2 | have F := eq_true hb2); (simp (disch := omega) only [go_sem, Nat.reduceBEq, ↓reduceIte, F, s0, s4, bget]); clear hb F; (try omega))))
  ·exact z00 (za8 (k := k - z96 s) (by omega) (by rw [O (by omega)]; unfold cap; exact decide_eq_false (by omega))).symm
  ·(refine Exists.intro _ (And.intro ?_ ⟨k + 1, rfl, ?_⟩)); rotate_left; (simp (disch := omega) only [go_sem, Nat.reduceBEq, s0, s4, true_and, Int.natCast_add, Int.natCast_one]); rotate_left
   ·omega
   ·refine ⟨by omega, by omega, ?_⟩
    rw [show k + 1 - z96 s = k - z96 s + 1 from by omega]
    exact z6m (by omega) sp2 (by rw [O (by omega)]; unfold cap; exact decide_eq_true (by omega))
  ·exact z00 (za8 (k := k - z96 s) (by omega) (by rw [O (by omega)]; unfold cap; exact decide_eq_false (by omega))).symm
  ·exact z00 (z6n (k := k - z96 s) (by omega) sp2).symm
 ·have hf := hne (by omega)
  exact z00 (by unfold z4i; rw [decide_eq_false (by omega)]; rfl)
 ·exact z00 (by unfold z4i; rw [decide_eq_false (by omega)]; rfl)
 ·exact z00 (by unfold z4i; rw [decide_eq_false (by omega)]; rfl)
end
section
open Abs Facts Tr
attribute [local irreducible] awp
namespace Tr
def nodesT (t : T) : List T := zf2 (fun t l => t :: l.flatten) t
theorem z11 (t : T) : nodesT t = t :: t.kids.flatMap nodesT := by
 unfold nodesT; rw [z3k, List.flatMap]
theorem z0a (t : T) : t ∈ nodesT t := by rw [z11]; exact List.mem_cons_self
theorem z0j {t k x : T} (O : k ∈ t.kids) (hx : x ∈ nodesT k) : x ∈ nodesT t := by
 rw [z11]; exact List.mem_cons_of_mem _ (List.mem_flatMap.2 ⟨k, O, hx⟩)
variable {σ : Type}
def za7 (step : T -> σ -> Bool × σ) : List T -> σ -> Bool × σ
 | [], s => (true, s)
 | x :: l, s => if (step x s).1 = true then za7 step l (step x s).2 else (false, (step x s).2)
theorem zaj (step : T -> σ -> Bool × σ) : ∀ (a b : List T) (s : σ), za7 step (a ++ b) s = if (za7 step a s).1 = true then za7 step b (za7 step a s).2 else za7 step a s
 | [], b, s => by simp [za7]
 | x :: a, b, s => by
  simp only [List.cons_append, za7]
  split
  ·exact zaj step a b _
  ·simp
theorem zte (step : T -> σ -> Bool × σ) {a b : List T} {s : σ} (h : (za7 step a s).1 = false) : za7 step (a ++ b) s = za7 step a s := by
 rw [zaj, h]; simp
theorem ztf (step : T -> σ -> Bool × σ) (m : σ -> Nat) (hm : ∀ x s, m (step x s).2 <= m s + 1) : ∀ (l : List T) (s : σ), m (za7 step l s).2 <= m s + l.length
 | [], s => by simp [za7]
 | x :: l, s => by
  have h1 := hm x s
  simp only [za7, List.length_cons]
  split
  ·have := ztf step m hm l (step x s).2
   omega
  ·simp only; omega
theorem zy4 (step : T -> σ -> Bool × σ) {f : T -> List T} {l : List T} {i : Nat} {s s2 : σ} (h : i < l.length) (hq : za7 step ((l.take i).flatMap f) s = (true, s2)) :
  za7 step ((l.take (i + 1)).flatMap f) s = za7 step (f l[i]) s2 := by
 rw [List.take_succ_eq_append_getElem h, List.flatMap_append, zaj, hq]
 simp
theorem ztg (step : T -> σ -> Bool × σ) {f : T -> List T} {l : List T} {i : Nat} {s s2 : σ} (hq : za7 step ((l.take i).flatMap f) s = (false, s2)) : za7 step (l.flatMap f) s = (false, s2) := by
 have : l.flatMap f = (l.take i).flatMap f ++ (l.drop i).flatMap f := by rw [<- List.flatMap_append, List.take_append_drop]
 rw [this, zte _ (by rw [hq]), hq]
end Tr
theorem zev {σ : Type} {g : FuncId} {cap : List D} {lo : Nat} {I : σ -> HM -> Prop} (step : T -> σ -> Bool × σ) (hI : Low lo I) (m : σ -> Nat) (M : Nat) (hm : ∀ x s, m (step x s).2 <= m s + 1) :
  ∀ u : T, zic u = true -> (∀ x ∈ nodesT u, ∀ s, m s < M -> Eff prog g (z1e x :: cap) lo I s (step x s).2 (.bool (step x s).1)) ->
  ∀ s, m s + (nodesT u).length <= M -> Eff prog 70 [z1e u, .fn g cap] lo I s (za7 step (nodesT u) s).2 (.bool (za7 step (nodesT u) s).1) := by
 refine z4l fun u ih hfit hv s hM => ?_
 obtain ⟨h1, h2, h3, h4⟩ := (z8p u).1 hfit
 have ih := fun k O => ih k O (h4 k O) (fun x hx => hv x (z0j O hx))
 have hlen : (nodesT u).length = 1 + (u.kids.flatMap nodesT).length := by rw [z11, List.length_cons, Nat.add_comm]
 have hv := hv u (z0a u) s (by omega)
 have hm1 := hm u s
 unfold maxLen at h3
 have hrun : za7 step (nodesT u) s = if (step u s).1 = true then za7 step (u.kids.flatMap nodesT) (step u s).2 else (false, (step u s).2) := by rw [z11]; rfl
 rw [hrun]; clear hrun
 generalize step u s = p1 at hv hm1 ⊢
 obtain ⟨b1, s1⟩ := p1
 simp only at hv hm1 ⊢
 refine zg8 hI rfl fun H nx hlo hs => ?_
 refine (z23 [] func70 rfl (by decide +kernel) rfl ?_)
 show awp _ _ (Code.seq _ _) _ _
 repeat' (first | refine nxt ?_ | ((refine zqh fun K hK => ?_); (simp (disch := omega) only [go_sem, Nat.reduceBEq, ↓reduceIte, Nat.reduceAdd, Nat.reduceLeDiff])) | (refine hK _ ?_; clear hK K))
 refine zc5 hv (by show lo <= nx + 1; omega) (hI.loc s H _ (fun id hid => zd4 (by omega)) hs) fun H1 hs1 hH1 => ?_
 have hb1 : H1 nx = some (.box 27 (z08 u)) := (hH1 nx hlo).trans updH_eq
 have hk1 : ∀ id, lo <= id -> id < nx -> H1 id = H id := fun id h1 h2 => (hH1 id h1).trans (zd4 (by omega))
 clear hH1
 (try (simp (disch := omega) only [go_sem, Nat.reduceBEq])); repeat' (first | refine nxt ?_ | ((refine zqh fun K hK => ?_); (simp (disch := omega) only [go_sem, Nat.reduceBEq, ↓reduceIte, reduceCtorEq, Nat.reduceAdd, hb1])) | (refine zqd _ rfl ?_ ?_ <;> intro hc <;> (((try simp only [z06] at hc); (try omega)))) | refine zqu (by simp only [go_sem]; rfl) rfl ?_ | (refine hK _ ?_; clear hK K))
 ·subst hc
  (simp (disch := omega) only [go_sem, Nat.reduceBEq, ↓reduceIte])
  exact ⟨hs1, hk1⟩
 ·subst hc
  simp only [if_true]
  (refine z45 (fun U st => ∃ (i : _) (si : _), U = u.kids.length - i /\ st.t 1 = .fn g cap /\ st.t 12 = z0n u.kids /\ st.t 13 = .int .i64 u.kids.length /\ st.t 14 = .int .i64 i /\ (i <= u.kids.length) /\ (nx < st.nx) /\ (I si st.H) /\ (za7 step ((u.kids.take i).flatMap nodesT) s1 = (true, si)) /\ (∀ id, lo <= id -> id < nx -> st.H id = H id)) ?_ ?_); rotate_left; (rintro U st ⟨i, si, rfl, q1, q12, q13, q14, qp0, qp1, qp2, qp3, qp4⟩); rotate_left
  ·(refine ⟨_, 0, s1, rfl, ?_⟩); (simp (disch := omega) only [go_sem, Nat.reduceBEq, true_and, Int.natCast_zero, List.flatMap_nil, z0n])
   exact ⟨by omega, hs1, rfl, hk1⟩
  have ih := fun (h : i < u.kids.length) => ih u.kids[i] (List.getElem_mem h) si
  repeat' (first | ((refine zqh fun K hK => ?_); (simp (disch := omega) only [go_sem, Nat.reduceBEq, ↓reduceIte, reduceCtorEq, Nat.reduceAdd, Nat.reduceLeDiff, q1, q12, q13, q14, z0n])) | (refine zqd _ rfl ?_ ?_ <;> intro hc <;> (((try simp only [z06] at hc); (try omega)))) | refine nxt ?_ | refine zqz ?_ | refine zqu (by simp only [go_sem]; rfl) rfl ?_ | (refine hK _ ?_; clear hK K))
  ·have hi : i < u.kids.length := by omega
   obtain ⟨b2, s2, e2⟩ : ∃ b2 s2, za7 step (nodesT u.kids[i]) si = (b2, s2) := ⟨_, _, rfl⟩
   have ih := ih hi (by
    have h1 := ztf step m hm ((u.kids.take i).flatMap nodesT) s1
    rw [qp3] at h1
    have h2 : (u.kids.flatMap nodesT).length = ((u.kids.take i).flatMap nodesT).length + ((nodesT u.kids[i]).length + ((u.kids.drop (i + 1)).flatMap nodesT).length) := by
     rw [<- List.length_append, <- List.flatMap_cons, List.getElem_cons_drop, <- List.length_append, <- List.flatMap_append, List.take_append_drop]
    simp only at h1
    omega)
   rw [e2] at ih
   have hrun := (zy4 step hi qp3).trans e2
   refine zc5 ih (by show lo <= st.nx + 1; omega) (hI.loc si st.H _ (fun id hid => (zd4 (by omega)).trans (zd4 (by omega))) qp2) fun H2 hs2 hH2 => ?_
   have hk2 : ∀ id, lo <= id -> id < nx -> H2 id = H id := fun id h1 h2 => ((hH2 id h1).trans ((zd4 (by omega)).trans (zd4 (by omega)))).trans (qp4 id h1 h2)
   clear hH2
   (try (simp (disch := omega) only [go_sem, Nat.reduceBEq])); repeat' (first | ((first | refine zqh fun K hK => ?_ | refine zqr fun K hK => ?_); (simp (disch := omega) only [go_sem, Nat.reduceBEq, ↓reduceIte, q14])) | ((refine zqm _ rfl (fun hc => ?_) (fun hc => ?_)) <;> (((try simp only [z06] at hc); (try omega)))) | refine nxt ?_ | refine zqu (by simp only [go_sem]; rfl) rfl ?_ | (refine hK _ ?_; clear hK K))
   ·subst hc
    (simp (disch := omega) only [go_sem, Nat.reduceBEq])
    rw [ztg step hrun]
    exact ⟨rfl, hs2, hk2⟩
   ·subst hc
    (refine Exists.intro _ (And.intro ?_ ⟨i + 1, s2, rfl, ?_⟩)); rotate_left; (simp (disch := omega) only [go_sem, Nat.reduceBEq, q1, q12, q13, q14, true_and, Int.natCast_add, Int.natCast_one, hrun]); rotate_left
    ·omega
    ·exact ⟨by omega, hs2, hk2⟩
  ·have : u.kids.take i = u.kids := List.take_of_length_le (by omega)
   rw [this] at qp3
   rw [qp3]
   (simp (disch := omega) only [go_sem, Nat.reduceBEq])
   exact ⟨qp2, qp4⟩
namespace Tr
def cntT (t : T) : Nat := (nodesT t).length
def idsT (t : T) : List Idv := (nodesT t).map T.id
theorem znw (f : T -> Bool) : ∀ (l : List T) (s : Unit), za7 (fun x s => (f x, s)) l s = (l.all f, ())
 | [], _ => rfl
 | x :: l, s => by
  simp only [za7, List.all_cons]
  cases f x <;> simp [znw f l]
theorem znx : ∀ (l : List T) (n : Nat), za7 (fun _ n => (true, n + 1)) l n = (true, n + l.length)
 | [], _ => rfl
 | x :: l, n => by simp only [za7, if_true, znx l, List.length_cons]; congr 1; omega
theorem zny : ∀ (l : List T) (a : List Idv), za7 (fun x a => (true, a ++ [x.id])) l a = (true, a ++ l.map T.id)
 | [], a => by simp [za7]
 | x :: l, a => by simp [za7, zny l]
end Tr
theorem zy5 (lo : Nat) (hz : lo = 0) : Low lo (fun (_ : Unit) (_ : HM) => True) := ⟨fun _ _ _ _ h => h, fun _ _ _ id o h _ => by omega⟩
theorem zy6 {g : FuncId} {cap : List D} (f : T -> Bool) (hc : pureD.pureL cap = true) (u : T) (hfit : zic u = true) (hv : ∀ x ∈ nodesT u, PC prog g (z1e x :: cap) (.bool (f x))) :
  PC prog 70 [z1e u, .fn g cap] (.bool ((nodesT u).all f)) := by
 have h := zev (fun x (s : Unit) => (f x, s)) (zy5 0 rfl) (fun _ => 0) (nodesT u).length (fun _ _ => by simp) u hfit (fun x hx s _ => (hv x hx).eff s) () (by simp)
 rw [znw] at h
 exact ⟨by simp only [pureD.pureL, z0b, pureD, hc, Bool.and_self], rfl, (h noH 0 (Nat.le_refl _) trivial).mono fun _ _ _ h => h.1⟩
def zpy (u : T) (n : Nat) : List HObj := [.box 27 (z08 u), .box 3 [.int .i64 (IntKind.i64.wrap n)]]
def zmb (u : T) (l : List Idv) : List HObj := [.box 27 (z08 u), .box 56 [.osl 2 l.length], .row 23 l.length (l.flatMap cellsId)]
theorem zh2 (n : Nat) (u : T) : lowD.lowL n (z08 u) = true := z22 n _ (z2a u)
theorem low_C (u : T) : Low 2 fun n H => ∀ j, j < 2 -> H j = (zpy u n)[j]? := zpg (zpy u) (fun _ => rfl) fun n o ho => by
 simp only [zpy, List.mem_cons, List.not_mem_nil, or_false] at ho
 rcases ho with rfl | rfl
 ·exact zh2 _ _
 ·rfl
theorem low_I (u : T) : Low 3 fun l H => ∀ j, j < 3 -> H j = (zmb u l)[j]? := zpg (zmb u) (fun _ => rfl) fun l o ho => by
 simp only [zmb, List.mem_cons, List.not_mem_nil, or_false] at ho
 rcases ho with rfl | rfl | rfl
 ·exact zh2 _ _
 ·rfl
 ·exact z22 _ _ (z1f (fun _ => rfl) l)
theorem zpz (u x : T) (n : Nat) : Eff prog 74 [z1e x, .ptr 1 0] 2 (fun n H => ∀ j, j < 2 -> H j = (zpy u n)[j]?) n (n + 1) (.bool true) := by
 refine zg8 (low_C u) rfl fun H nx hlo hs => ?_
 have h1 : H 1 = some (.box 3 [.int .i64 (IntKind.i64.wrap n)]) := hs 1 (by omega)
 have h0 : H 0 = some (.box 27 (z08 u)) := hs 0 (by omega)
 have hne : (1 == nx) = false := by simp; omega
 have hne' : (0 == nx) = false := by simp; omega
 refine (z23 [] func74 rfl (by decide +kernel) rfl ?_)
 show awp _ _ (Code.seq _ _) _ _
 repeat' (first | ((refine zqh fun K hK => ?_); (simp (disch := omega) only [go_sem, Nat.reduceBEq, ↓reduceIte, Nat.reduceAdd, Nat.reduceLeDiff, Nat.reduceLT, h1, hne])) | refine nxt ?_ | refine zqu (by simp only [go_sem]; rfl) rfl ?_ | (refine hK _ ?_; clear hK K))
 (simp (disch := omega) only [go_sem, Nat.reduceBEq])
 refine ⟨fun j hj => ?_, fun id h1 h2 => ?_⟩
 ·match j, hj with
  | 0, _ => simp [hne', h0, zpy]
  | 1, _ => simp [zpy]; simp only [IntKind.wrap_i64]; omega
 ·rw [show (id == 1) = false from by simp; omega, show (id == nx) = false from by simp; omega]; rfl
theorem zy7 (u x : T) (l : List Idv) (hl : l.length < 5000000000000) : Eff prog 114 [z1e x, .ptr 1 0] 3 (fun l H => ∀ j, j < 3 -> H j = (zmb u l)[j]?) l (l ++ [x.id]) (.bool true) := by
 refine zg8 (low_I u) rfl fun H nx hlo hs => ?_
 have h1 : H 1 = some (.box 56 [.osl 2 l.length]) := hs 1 (by omega)
 have h0 : H 0 = some (.box 27 (z08 u)) := hs 0 (by omega)
 have h2 : H 2 = some (.row 23 l.length (l.flatMap cellsId)) := hs 2 (by omega)
 have hne : (1 == nx) = false := by simp; omega
 have hne' : (0 == nx) = false := by simp; omega
 have hne2 : (2 == nx) = false := by simp; omega
 refine (z23 [] func114 rfl (by decide +kernel) rfl ?_)
 show awp _ _ (Code.seq _ _) _ _
 repeat' (first | ((refine zqh fun K hK => ?_); (simp (disch := omega) only [go_sem, Nat.reduceBEq, ↓reduceIte, reduceCtorEq, Nat.reduceAdd, Nat.reduceMul, Nat.reduceLeDiff, Nat.reduceLT, h1, h2, hne, hne2])) | refine nxt ?_ | refine zqu (by simp only [go_sem]; rfl) rfl ?_ | (refine hK _ ?_; clear hK K))
 (simp (disch := omega) only [go_sem, Nat.reduceBEq])
 refine ⟨fun j hj => ?_, fun id h1 h2 => ?_⟩
 ·match j, hj with
  | 0, _ => simp [hne', h0, zmb]
  | 1, _ => simp [zmb]
  | 2, _ => simp [zmb, cellsId]
 ·rw [show (id == 1) = false from by simp; omega, show (id == 2) = false from by simp; omega, show (id == nx) = false from by simp; omega]; rfl
theorem zee (u : T) (hfit : zic u = true) (hs : cntT u <= 1000000000) : PC prog 45 [z1e u] (.int .i64 (cntT u)) := by
 refine z2i 1 (by simp only [pureD.pureL, z0b, Bool.and_self]) rfl (z23 [] func45 rfl (by decide +kernel) rfl ?_)
 show awp _ _ (Code.seq _ _) _ _
 repeat' (first | ((refine zqh fun K hK => ?_); (simp (disch := omega) only [go_sem, Nat.reduceBEq, ↓reduceIte, Nat.reduceAdd, Nat.reduceLeDiff, Nat.reduceLT])) | (refine hK _ ?_; clear hK K))
 have h := zev (fun _ n => (true, n + 1)) (low_C u) (fun _ => 0) (nodesT u).length (fun _ _ => by simp) u hfit (fun x _ n _ => zpz u x n) 0 (by simp)
 rw [znx] at h
 refine zc5 h (Nat.le_refl _) (fun j hj => ?_) fun H1 hs1 _ => ?_
 ·match j, hj with
  | 0, _ => rfl
  | 1, _ => rfl
 ·have h1 : H1 1 = some (.box 3 [.int .i64 (IntKind.i64.wrap ((0 + (nodesT u).length : Nat) : Int))]) := hs1 1 (by omega)
  (try (simp (disch := omega) only [go_sem])); repeat' (first | ((refine zqh fun K hK => ?_); (simp (disch := omega) only [go_sem, Nat.reduceBEq, ↓reduceIte, Nat.reduceAdd, h1])) | refine nxt ?_ | refine zqu (by simp only [go_sem]; rfl) rfl ?_ | (refine hK _ ?_; clear hK K))
  refine z1q ?_
  exact z3i (by unfold cntT at hs; omega)
theorem pc_IDs (u : T) (hfit : zic u = true) (hs : cntT u <= 5000000000000) : PC prog 94 [z1e u] (z2d (idsT u)) := by
 refine z2i 2 (by simp only [pureD.pureL, z0b, Bool.and_self]) (zam _) (z23 [] func94 rfl (by decide +kernel) rfl ?_)
 show awp _ _ (Code.seq _ _) _ _
 (refine zqh fun K hK => ?_); (simp only [go_sem, ↓reduceIte]); (refine hK _ ?_); (clear hK K)
 refine z3b fun K hK => ?_
 (simp (disch := omega) only [go_sem, Nat.reduceAdd])
 refine hK _ _ (zln (b := 1) (e := 56) 23 (by (simp (disch := omega) only [go_sem, Nat.reduceBEq]))) ?_
 clear hK K
 repeat' (((refine zqh fun K hK => ?_); (simp (disch := omega) only [go_sem, Nat.reduceBEq, ↓reduceIte, Nat.reduceAdd, Nat.reduceLeDiff])))
 have h := zev (fun x l => (true, l ++ [x.id])) (low_I u) List.length (nodesT u).length (fun x l => by simp) u hfit (fun x _ l hl => zy7 u x l (by unfold cntT at hs; omega)) [] (by simp)
 rw [zny] at h
 refine zc5 h (Nat.le_refl _) (fun j hj => ?_) fun H1 hs1 _ => ?_
 ·match j, hj with
  | 0, _ => rfl
  | 1, _ => rfl
  | 2, _ => rfl
 ·have h1 : H1 1 = some (.box 56 [.osl 2 (idsT u).length]) := hs1 1 (by omega)
  have h2 : H1 2 = some (.row 23 (idsT u).length ((idsT u).flatMap cellsId)) := hs1 2 (by omega)
  (try (simp (disch := omega) only [go_sem])); repeat' (first | ((refine zqh fun K hK => ?_); (simp (disch := omega) only [go_sem, Nat.reduceBEq, ↓reduceIte, Nat.reduceAdd, h1])) | refine nxt ?_ | refine zqu (by simp only [go_sem]; rfl) rfl ?_ | (refine hK _ ?_; clear hK K))
  refine z6f ?_
  exact z1b 0 h2 zbu zfg (fun _ => rfl) (fun _ => rfl)
end
section
open Abs Facts Tr
attribute [local irreducible] awp
namespace Tr
def z8h (p : Int -> Bool) (s : ByteArray) : Nat := ((bl s).takeWhile fun b => !p b.toNat).length
theorem zk4 {p : Int -> Bool} {s : ByteArray} {k : Nat} (O : k <= s.size) (h1 : ∀ j, (hj : j < k) -> p ((bl s)[j]'(by rw [z1i]; omega)).toNat = false) (h2 : ∀ h : k < s.size, p ((bl s)[k]'h).toNat = true) : z8h p s = k := by
 unfold z8h
 refine z5o (by rw [z1i]; exact O) (fun j hj => by rw [h1 j hj]; rfl) (fun h => by rw [h2 h]; rfl)
end Tr
theorem zu3 {s : ByteArray} {i : Nat} (h : i < s.size) (hb : ((bl s)[i]'h).toNat < 128) : Utf8.decode s i = (((bl s)[i]'h).toNat, 1) := decode_ascii s i h hb
theorem zu4 {s : ByteArray} {i : Nat} (h : i < s.size) (hb : 128 <= ((bl s)[i]'h).toNat) : 128 <= (Utf8.decode s i).1 := (decode_high s i h hb).1
theorem zk5 (s : ByteArray) (hs : s.size <= maxLen) {g : FuncId} {cap : List D} (p : Int -> Bool) (hc : pureD.pureL cap = true)
  (hp : ∀ r : Nat, r <= 2147483647 -> PC prog g (.int .i32 r :: cap) (.bool (p r))) (hbig : ∀ r : Nat, 128 <= r -> p r = true) :
  PC prog 133 [.str s, .fn g cap, .bool true] (.int .i64 (if z8h p s < s.size then (z8h p s : Int) else -1)) := by
 unfold maxLen at hs
 refine z2i 1 (by simp only [pureD.pureL, pureD, hc, Bool.and_self]) rfl (z23 [] func133 rfl (by decide +kernel) rfl ?_)
 show awp _ _ (Code.seq _ _) _ _
 repeat' (first | refine nxt ?_ | ((refine zqh fun K hK => ?_); (simp (disch := omega) only [go_sem, Nat.reduceBEq, ↓reduceIte])) | (refine hK _ ?_; clear hK K))
 have hdp : ∀ i (h : i < s.size), p (Utf8.decode s i).1 = p ((bl s)[i]'h).toNat /\ (p ((bl s)[i]'h).toNat = false -> (Utf8.decode s i).2 = 1) := fun i h => by
  rcases Nat.lt_or_ge ((bl s)[i]'h).toNat 128 with hb | hb
  ·rw [zu3 h hb]; exact ⟨rfl, fun _ => rfl⟩
  ·rw [hbig _ (zu4 h hb), hbig _ hb]; exact ⟨rfl, fun h => by cases h⟩
 (refine z45 (fun U st => ∃ (i : _), U = s.size - i /\ st.t 1 = .fn g cap /\ st.t 2 = .bool true /\ st.t 10 = .it 0 /\ st.H 0 = some (.raw (.stringIter s i)) /\ (i <= s.size) /\ (∀ j, (hj : j < i) -> (h : j < (bl s).length) -> p (bl s)[j].toNat = false) /\ (1 <= st.nx)) ?_ ?_); rotate_left; (rintro U st ⟨i, rfl, q1, q2, q10, qH0, qp0, qp1, qp2⟩); rotate_left
 ·(refine ⟨_, 0, rfl, ?_⟩); (simp (disch := omega) only [go_sem, Nat.reduceBEq, Nat.reduceLeDiff, true_and, and_true])
  intro j hj; omega
 by_cases hi : i < s.size
 ·have hp := hp (Utf8.decode s i).1 (decode_le s i)
  obtain ⟨hd1, hd2⟩ := hdp i hi
  repeat' (first | ((first | refine zqh fun K hK => ?_ | refine zqs (hp) ?_); (simp (disch := omega) only [go_sem, Nat.reduceBEq, ↓reduceIte, q1, q2, q10, qH0, hi])) | ((first | refine zqd _ rfl (fun hc => ?_) (fun hc => ?_) | refine zqm _ rfl (fun hc => ?_) (fun hc => ?_)) <;> (first | (cases hc; done) | ((try simp only [] at hc); (try omega)))) | refine nxt ?_ | refine zqu (by simp only [go_sem]; rfl) rfl ?_ | (refine hK _ ?_; clear hK K))
  ·refine z1q ?_
   rw [zk4 (k := i) (by omega) (fun j hj => qp1 j hj (by rw [z1i]; omega)) (fun h => by rw [<- hd1]; assumption), if_pos hi]
  ·have hd1 := hd1.symm.trans (by assumption)
   have hd2 := hd2 hd1
   (refine Exists.intro _ (And.intro ?_ ⟨i + 1, rfl, ?_⟩)); rotate_left; (simp (disch := omega) only [go_sem, Nat.reduceBEq, q1, q2, q10, qH0, true_and, hd2]); rotate_left
   ·omega
   ·refine ⟨by omega, fun j hj h => ?_, by omega⟩
    by_cases e : j = i
    ·subst e; exact hd1
    ·exact qp1 j (by omega) h
 ·repeat' (first | ((refine zqh fun K hK => ?_); (simp (disch := omega) only [go_sem, ↓reduceIte, q10, qH0, hi])) | (refine zqd _ rfl ?_ ?_ <;> intro hc <;> (first | (cases hc; done) | ((try simp only [] at hc); (try omega)))) | refine nxt ?_ | refine zqz ?_ | refine zqu (by simp only [go_sem]; rfl) rfl ?_ | (refine hK _ ?_; clear hK K))
  refine z1q ?_
  have hi2 : i = s.size := by omega
  subst hi2
  rw [zk4 (k := s.size) (by omega) (fun j hj => qp1 j hj (by rw [z1i]; omega)) (fun h => by omega), if_neg (by omega)]
theorem zdd (s : ByteArray) (hs : s.size <= maxLen) {g : FuncId} {cap : List D} (p : Int -> Bool) (hc : pureD.pureL cap = true)
  (hp : ∀ r : Nat, r <= 2147483647 -> PC prog g (.int .i32 r :: cap) (.bool (p r))) (hbig : ∀ r : Nat, 128 <= r -> p r = true) :
  PC prog 124 [.str s, .fn g cap] (.int .i64 (if z8h p s < s.size then (z8h p s : Int) else -1)) := by
 have h := zk5 s hs p hc hp hbig
 refine z2i 1 (by simp only [pureD.pureL, pureD, hc, Bool.and_self]) rfl (z23 [] func124 rfl (by decide +kernel) rfl ?_)
 show awp _ _ (Code.seq _ _) _ _
 repeat' (first | ((first | refine zqh fun K hK => ?_ | refine zqs (h) ?_); (simp (disch := omega) only [go_sem, Nat.reduceBEq])) | refine nxt ?_ | refine zqu (by simp only [go_sem]; rfl) rfl ?_ | (refine hK _ ?_; clear hK K))
 exact z1q rfl
theorem ze2 (s : ByteArray) (hs : s.size <= maxLen) {g : FuncId} {cap : List D} (p : Int -> Bool) (hc : pureD.pureL cap = true)
  (hp : ∀ r : Nat, r <= 2147483647 -> PC prog g (.int .i32 r :: cap) (.bool (p r))) (hbig : ∀ r : Nat, 128 <= r -> p r = true) :
  PC prog 111 [.str s, .fn g cap] (.bool (decide (z8h p s < s.size))) := by
 have h := zdd s hs p hc hp hbig
 refine z2i 1 (by simp only [pureD.pureL, pureD, hc, Bool.and_self]) rfl (z23 [] func111 rfl (by decide +kernel) rfl ?_)
 show awp _ _ (Code.seq _ _) _ _
 repeat' (first | ((first | refine zqh fun K hK => ?_ | refine zqs (h) ?_); (simp (disch := omega) only [go_sem, Nat.reduceBEq, ↓reduceIte])) | refine nxt ?_ | refine zqu (by simp only [go_sem]; rfl) rfl ?_ | (refine hK _ ?_; clear hK K))
 refine z00 ?_
 by_cases h : z8h p s < s.size
 ·rw [if_pos h]; simp [h]
 ·rw [if_neg h]; simp [h]
def zde (r : Int) : Bool := decide (r < 48) || decide (57 < r)
def zbg (r : Int) : Bool := decide (r < 65) || decide (90 < r)
theorem zq8 (r : Nat) : PC prog 125 [.int .i32 r] (.bool (zde r)) := by
 refine z2i 1 (by simp only [pureD.pureL, pureD, Bool.and_self]) rfl (z23 [] func125 rfl (by decide +kernel) rfl ?_)
 show awp _ _ (Code.seq _ _) _ _
 repeat' (first | ((refine zqh fun K hK => ?_); (simp (disch := omega) only [go_sem, Nat.reduceBEq, ↓reduceIte])) | refine nxt ?_ | refine zqu (by simp only [go_sem]; rfl) rfl ?_ | (refine hK _ ?_; clear hK K) | (refine zqf (fun hb => ?_) (fun hb => ?_) <;> (have hb2 := hb; try simp only [z06] at hb2) <;> ((first | have F := eq_false hb2 | have F := eq_true hb2); (simp (disch := omega) only [go_sem, Nat.reduceBEq, ↓reduceIte, F]); clear hb F; (try omega))))
 ·exact z00 (by unfold zde; rw [decide_eq_false (show ¬ (r : Int) < 48 by assumption)]; rfl)
 ·exact z00 (by unfold zde; rw [decide_eq_true (show (r : Int) < 48 by assumption)]; rfl)
theorem zu5 (r : Nat) : PC prog 110 [.int .i32 r] (.bool (zbg r)) := by
 refine z2i 1 (by simp only [pureD.pureL, pureD, Bool.and_self]) rfl (z23 [] func110 rfl (by decide +kernel) rfl ?_)
 show awp _ _ (Code.seq _ _) _ _
 repeat' (first | ((refine zqh fun K hK => ?_); (simp (disch := omega) only [go_sem, Nat.reduceBEq, ↓reduceIte])) | refine nxt ?_ | refine zqu (by simp only [go_sem]; rfl) rfl ?_ | (refine hK _ ?_; clear hK K) | (refine zqf (fun hb => ?_) (fun hb => ?_) <;> (have hb2 := hb; try simp only [z06] at hb2) <;> ((first | have F := eq_false hb2 | have F := eq_true hb2); (simp (disch := omega) only [go_sem, Nat.reduceBEq, ↓reduceIte, F]); clear hb F; (try omega))))
 ·exact z00 (by unfold zbg; rw [decide_eq_false (show ¬ (r : Int) < 65 by assumption)]; rfl)
 ·exact z00 (by unfold zbg; rw [decide_eq_true (show (r : Int) < 65 by assumption)]; rfl)
def zk6 (s : ByteArray) : ByteArray := if z96 s < s.size then s.extract 0 (z96 s) else s
def zq9 (s : ByteArray) : ByteArray := if z96 s < s.size then s.extract (z96 s) s.size else ByteArray.empty
theorem zhb (s : ByteArray) (a b : Nat) : bl (s.extract a b) = ((bl s).take b).drop a := by
 unfold bl
 rw [ByteArray.data_extract, Array.toList_extract, List.extract]
 rw [List.drop_take]
theorem zob (s : ByteArray) : bl (zk6 s) = (bl s).take (z96 s) := by
 unfold zk6
 have := zd6 s
 split
 ·rw [zhb, List.drop_zero]
 ·rw [List.take_of_length_le (by rw [z1i]; omega)]
theorem zoc (s : ByteArray) : bl (zq9 s) = (bl s).drop (z96 s) := by
 unfold zq9
 have := zd6 s
 split
 ·rw [zhb, List.take_of_length_le (by rw [z1i]; omega)]
 ·rw [List.drop_eq_nil_of_le (by rw [z1i]; omega)]; rfl
theorem zqw (s : ByteArray) : (zk6 s).size = z96 s := by
 have := zd6 s
 rw [<- z1i, zob, List.length_take, z1i]; omega
theorem zr0 (s : ByteArray) : (zq9 s).size = s.size - z96 s := by rw [<- z1i, zoc, List.length_drop, z1i]
theorem zr1 : (fun b : UInt8 => !zde b.toNat) = dig := by
 funext b
 unfold zde dig
 rcases Nat.lt_or_ge b.toNat 48 with h | h
 ·rw [decide_eq_true (show (b.toNat : Int) < 48 by omega), decide_eq_false (show ¬ (48 <= b.toNat /\ b.toNat <= 57) by omega)]; rfl
 ·rw [decide_eq_false (show ¬ (b.toNat : Int) < 48 by omega)]
  rcases Nat.lt_or_ge 57 b.toNat with h2 | h2
  ·rw [decide_eq_true (show (57 : Int) < b.toNat by omega), decide_eq_false (show ¬ (48 <= b.toNat /\ b.toNat <= 57) by omega)]; rfl
  ·rw [decide_eq_false (show ¬ (57 : Int) < b.toNat by omega), decide_eq_true (show 48 <= b.toNat /\ b.toNat <= 57 by omega)]; rfl
theorem zhc : (fun b : UInt8 => !zbg b.toNat) = cap := by
 funext b
 unfold zbg cap
 rcases Nat.lt_or_ge b.toNat 65 with h | h
 ·rw [decide_eq_true (show (b.toNat : Int) < 65 by omega), decide_eq_false (show ¬ (65 <= b.toNat /\ b.toNat <= 90) by omega)]; rfl
 ·rw [decide_eq_false (show ¬ (b.toNat : Int) < 65 by omega)]
  rcases Nat.lt_or_ge 90 b.toNat with h2 | h2
  ·rw [decide_eq_true (show (90 : Int) < b.toNat by omega), decide_eq_false (show ¬ (65 <= b.toNat /\ b.toNat <= 90) by omega)]; rfl
  ·rw [decide_eq_false (show ¬ (90 : Int) < b.toNat by omega), decide_eq_true (show 65 <= b.toNat /\ b.toNat <= 90 by omega)]; rfl
theorem z7z {α : Type} (q : α -> Bool) : ∀ (l : List α), ((l.takeWhile q).length < l.length) ↔ l.all q = false
 | [] => by simp
 | x :: l => by
  rw [List.takeWhile_cons, List.all_cons]
  cases q x
  ·simp
  ·simp [z7z q l]
theorem zih (s : ByteArray) : decide (z8h zbg s < s.size) = !(bl s).all cap := by
 have h := z7z (fun b : UInt8 => !zbg b.toNat) (bl s)
 rw [zhc] at h
 unfold z8h
 rw [zhc, <- z1i]
 cases ha : (bl s).all cap
 ·exact decide_eq_true (h.2 ha)
 ·exact decide_eq_false (fun h2 => by rw [h.1 h2] at ha; cases ha)
theorem zu6 (s : ByteArray) (hs : s.size <= maxLen) : PC prog 109 [.str s] (.tup [.str (zk6 s), .str (zq9 s)]) := by
 have h := zdd s hs (cap := []) zde rfl (fun r _ => zq8 r) (fun r hr => by unfold zde; rw [decide_eq_true (show (57 : Int) < r by omega), Bool.or_true])
 rw [show z8h zde s = z96 s from by unfold z8h z96; rw [zr1]] at h
 have hle := zd6 s
 unfold maxLen at hs
 refine z2i 2 (by simp only [pureD.pureL, pureD, Bool.and_self]) rfl (z23 [] func109 rfl (by decide +kernel) rfl ?_)
 show awp _ _ (Code.seq _ _) _ _
 unfold zk6 zq9
 by_cases V : z96 s < s.size
 ·rw [if_pos V] at h
  rw [if_pos V, if_pos V]
  repeat' (first | refine nxt ?_ | ((first | refine zqh fun K hK => ?_ | refine zqe (by decide +kernel) fun K hK => ?_ | refine zqs (h) ?_); (simp (disch := omega) only [go_sem, Nat.reduceBEq, ↓reduceIte])) | (refine zqd _ rfl ?_ ?_ <;> intro hc <;> (first | (cases hc; done) | ((try simp only [decide_eq_false_iff_not] at hc); (try omega)))) | refine zqu (by simp only [go_sem]; rfl) rfl ?_ | (refine hK _ ?_; clear hK K))
  exact z1p rfl (Le.refl _)
 ·rw [if_neg V] at h
  rw [if_neg V, if_neg V]
  repeat' (first | refine nxt ?_ | ((first | refine zqh fun K hK => ?_ | refine zqs (h) ?_); (simp (disch := omega) only [go_sem, Nat.reduceBEq, ↓reduceIte, Int.reduceLT])) | (refine zqd _ rfl ?_ ?_ <;> intro hc <;> (first | (cases hc; done) | ((try simp only [] at hc); (try omega)))) | refine zqu (by simp only [go_sem]; rfl) rfl ?_ | (refine hK _ ?_; clear hK K))
  exact z1p rfl (Le.refl _)
theorem zii (s : ByteArray) (hs : s.size <= maxLen) : PC prog 91 [.str s] (.bool (z4i s)) := by
 have h := zu6 s hs
 have hA := zqw s
 have hB := zr0 s
 have hle := zd6 s
 have hc := ze2 (zq9 s) (by omega) (cap := []) zbg rfl (fun r _ => zu5 r) (fun r hr => by unfold zbg; rw [decide_eq_true (show (90 : Int) < r by omega), Bool.or_true])
 rw [zih, zoc] at hc
 have hbl := z1i (zk6 s)
 unfold maxLen at hs
 have hz : Int.toNat 0 = 0 := rfl
 have hne : ∀ h : 0 < (zk6 s).size, (bl (zk6 s))[0].toNat = ((bl s).headD 0).toNat := fun h => by
  refine (congrArg UInt8.toNat (bhead h)).trans ?_
  rw [zob]
  congr 1
  obtain ⟨n, hn⟩ : ∃ n, z96 s = n + 1 := ⟨z96 s - 1, by omega⟩
  rw [hn]
  cases bl s <;> rfl
 refine z2i 1 (by simp only [pureD.pureL, pureD, Bool.and_self]) rfl (z23 [] func91 rfl (by decide +kernel) rfl ?_)
 show awp _ _ (Code.seq _ _) _ _
 repeat' (first | ((first | refine zqh fun K hK => ?_ | refine zqs (h) ?_ | refine zqs (hc) ?_); (simp (disch := omega) only [go_sem, Nat.reduceBEq, ↓reduceIte])) | refine nxt ?_ | refine zqu (by simp only [go_sem]; rfl) rfl ?_ | (refine hK _ ?_; clear hK K) | (refine zqf (fun hb => ?_) (fun hb => ?_) <;> (have hb2 := hb; try simp only [z06] at hb2) <;> ((first | have F := eq_false hb2 | have F := eq_true hb2); (simp (disch := omega) only [go_sem, Nat.reduceBEq, ↓reduceIte, Int.reduceLE, F, bget, hz]); clear hb F; (try omega))))
 ·have hf := hne (by omega)
  exact z00 (by unfold z4i; rw [decide_eq_true (by omega), Bool.true_and, Bool.not_not])
 ·exact z00 (by unfold z4i; rw [decide_eq_false (by omega)]; rfl)
 ·have hf := hne (by omega)
  exact z00 (by unfold z4i; rw [decide_eq_false (by omega)]; rfl)
 ·exact z00 (by unfold z4i; rw [decide_eq_false (by omega)]; rfl)
 ·exact z00 (by unfold z4i; rw [decide_eq_false (by omega)]; rfl)
def zu9 (b : UInt8) : D := .int .u8 b.toNat
namespace Tr
def z7e {α : Type} (f : α -> Bool) (l : List α) : Nat := (l.takeWhile fun x => !f x).length
theorem z4y {α : Type} {f : α -> Bool} {l : List α} {k : Nat} (O : k <= l.length) (h1 : ∀ j, (hj : j < k) -> f (l[j]'(by omega)) = false) (h2 : ∀ h : k < l.length, f l[k] = true) : z7e f l = k := by
 unfold z7e
 exact z5o O (fun j hj => by rw [h1 j hj]; rfl) (fun h => by rw [h2 h]; rfl)
theorem zil {α : Type} (f : α -> Bool) (l : List α) : decide (z7e f l < l.length) = l.any f := by
 have h := z7z (fun x => !f x) l
 have h2 : (l.all fun x => !f x) = !l.any f := by rw [<- List.not_any_eq_all_not]
 unfold z7e
 rw [h2] at h
 cases ha : l.any f
 ·exact decide_eq_false (fun h3 => by have := h.1 h3; rw [ha] at this; cases this)
 ·exact decide_eq_true (h.2 (by rw [ha]; rfl))
end Tr
theorem zim (nn : Bool) (l : List UInt8) (hl : l.length <= maxLen) {g : FuncId} {cap : List D} (f : UInt8 -> Bool) (hc : pureD.pureL cap = true) (hp : ∀ x ∈ l, PC prog g (zu9 x :: cap) (.bool (f x))) :
  PC prog 138 [.rsl nn 1 (l.map zu9), .fn g cap] (.int .i64 (if z7e f l < l.length then (z7e f l : Int) else -1)) := by
 unfold maxLen at hl
 refine z2i 1 (by simp only [pureD.pureL, pureD, hc, z0g (f := zu9) (fun _ => rfl) l, Bool.and_self]) rfl (z23 [] func138 rfl (by decide +kernel) rfl ?_)
 show awp _ _ (Code.seq _ _) _ _
 repeat' (first | refine nxt ?_ | ((refine zqh fun K hK => ?_); (simp (disch := omega) only [go_sem, Nat.reduceBEq])) | (refine hK _ ?_; clear hK K))
 (refine z45 (fun U st => ∃ (i : _), U = l.length - i /\ st.t 0 = .rsl nn 1 (l.map zu9) /\ st.t 1 = .fn g cap /\ st.t 7 = .int .i64 l.length /\ st.t 8 = .int .i64 i /\ (i <= l.length) /\ (∀ j, (hj : j < i) -> (h : j < l.length) -> f l[j] = false)) ?_ ?_); rotate_left; (rintro U st ⟨i, rfl, q0, q1, q7, q8, qp0, qp1⟩); rotate_left
 ·(refine ⟨_, 0, rfl, ?_⟩); (simp (disch := omega) only [go_sem, Nat.reduceBEq, true_and, Int.natCast_zero])
  intro j hj; omega
 have hp := fun (h : i < l.length) => hp l[i] (List.getElem_mem h)
 repeat' (first | ((first | refine zqh fun K hK => ?_ | refine zqr fun K hK => ?_ | refine zqs (hp (by omega)) ?_); (simp (disch := omega) only [go_sem, Nat.reduceBEq, ↓reduceIte, reduceCtorEq, Nat.reduceAdd, q0, q1, q7, q8, zu9])) | ((first | refine zqd _ rfl (fun hc => ?_) (fun hc => ?_) | refine zqm _ rfl (fun hc => ?_) (fun hc => ?_)) <;> (((try simp only [z06] at hc); (try omega)))) | refine nxt ?_ | refine zqz ?_ | refine zqu (by simp only [go_sem]; rfl) rfl ?_ | (refine hK _ ?_; clear hK K))
 ·refine z1q ?_
  rw [z4y (k := i) (by omega) (fun j hj => qp1 j hj (by omega)) (fun h => by assumption), if_pos (by omega)]
 ·(refine Exists.intro _ (And.intro ?_ ⟨i + 1, rfl, ?_⟩)); rotate_left; (simp (disch := omega) only [go_sem, Nat.reduceBEq, q0, q1, q7, q8, true_and, Int.natCast_add, Int.natCast_one]); rotate_left
  ·omega
  ·refine ⟨by omega, fun j hj h => ?_⟩
   by_cases e : j = i
   ·subst e; assumption
   ·exact qp1 j (by omega) h
 ·refine z1q ?_
  have hi : i = l.length := by omega
  subst hi
  rw [z4y (k := l.length) (by omega) (fun j hj => qp1 j hj (by omega)) (fun h => by omega), if_neg (by omega)]
theorem ze3 (nn : Bool) (l : List UInt8) (hl : l.length <= maxLen) {g : FuncId} {cap : List D} (f : UInt8 -> Bool) (hc : pureD.pureL cap = true) (hp : ∀ x ∈ l, PC prog g (zu9 x :: cap) (.bool (f x))) :
  PC prog 136 [.rsl nn 1 (l.map zu9), .fn g cap] (.bool (l.any f)) := by
 have h := zim nn l hl f hc hp
 refine z2i 1 (by simp only [pureD.pureL, pureD, hc, z0g (f := zu9) (fun _ => rfl) l, Bool.and_self]) rfl (z23 [] func136 rfl (by decide +kernel) rfl ?_)
 show awp _ _ (Code.seq _ _) _ _
 repeat' (first | ((first | refine zqh fun K hK => ?_ | refine zqs (h) ?_); (simp (disch := omega) only [go_sem, Nat.reduceBEq, ↓reduceIte])) | refine nxt ?_ | refine zqu (by simp only [go_sem]; rfl) rfl ?_ | (refine hK _ ?_; clear hK K))
 refine z00 ?_
 rw [<- zil]
 by_cases h : z7e f l < l.length
 ·rw [if_pos h]; simp [h]
 ·rw [if_neg h]; simp [h]
theorem zin (nn : Bool) (l : List ByteArray) (hl : l.length <= maxLen) {g : FuncId} {cap : List D} (f : ByteArray -> Bool) (hc : pureD.pureL cap = true) (hp : ∀ x ∈ l, PC prog g (D.str x :: cap) (.bool (f x))) :
  PC prog 134 [.rsl nn 1 (l.map D.str), .fn g cap] (.int .i64 (if z7e f l < l.length then (z7e f l : Int) else -1)) := by
 unfold maxLen at hl
 refine z2i 1 (by simp only [pureD.pureL, pureD, hc, z0g (f := D.str) (fun _ => rfl) l, Bool.and_self]) rfl (z23 [] func134 rfl (by decide +kernel) rfl ?_)
 show awp _ _ (Code.seq _ _) _ _
 repeat' (first | refine nxt ?_ | ((refine zqh fun K hK => ?_); (simp (disch := omega) only [go_sem, Nat.reduceBEq])) | (refine hK _ ?_; clear hK K))
 (refine z45 (fun U st => ∃ (i : _), U = l.length - i /\ st.t 0 = .rsl nn 1 (l.map D.str) /\ st.t 1 = .fn g cap /\ st.t 7 = .int .i64 l.length /\ st.t 8 = .int .i64 i /\ (i <= l.length) /\ (∀ j, (hj : j < i) -> (h : j < l.length) -> f l[j] = false)) ?_ ?_); rotate_left; (rintro U st ⟨i, rfl, q0, q1, q7, q8, qp0, qp1⟩); rotate_left
 ·(refine ⟨_, 0, rfl, ?_⟩); (simp (disch := omega) only [go_sem, Nat.reduceBEq, true_and, Int.natCast_zero])
  intro j hj; omega
 have hp := fun (h : i < l.length) => hp l[i] (List.getElem_mem h)
 repeat' (first | ((first | refine zqh fun K hK => ?_ | refine zqr fun K hK => ?_ | refine zqs (hp (by omega)) ?_); (simp (disch := omega) only [go_sem, Nat.reduceBEq, ↓reduceIte, reduceCtorEq, Nat.reduceAdd, q0, q1, q7, q8])) | ((first | refine zqd _ rfl (fun hc => ?_) (fun hc => ?_) | refine zqm _ rfl (fun hc => ?_) (fun hc => ?_)) <;> (((try simp only [z06] at hc); (try omega)))) | refine nxt ?_ | refine zqz ?_ | refine zqu (by simp only [go_sem]; rfl) rfl ?_ | (refine hK _ ?_; clear hK K))
 ·refine z1q ?_
  rw [z4y (k := i) (by omega) (fun j hj => qp1 j hj (by omega)) (fun h => by assumption), if_pos (by omega)]
 ·(refine Exists.intro _ (And.intro ?_ ⟨i + 1, rfl, ?_⟩)); rotate_left; (simp (disch := omega) only [go_sem, Nat.reduceBEq, q0, q1, q7, q8, true_and, Int.natCast_add, Int.natCast_one]); rotate_left
  ·omega
  ·refine ⟨by omega, fun j hj h => ?_⟩
   by_cases e : j = i
   ·subst e; assumption
   ·exact qp1 j (by omega) h
 ·refine z1q ?_
  have hi : i = l.length := by omega
  subst hi
  rw [z4y (k := l.length) (by omega) (fun j hj => qp1 j hj (by omega)) (fun h => by omega), if_neg (by omega)]
theorem ze4 (nn : Bool) (l : List ByteArray) (hl : l.length <= maxLen) {g : FuncId} {cap : List D} (f : ByteArray -> Bool) (hc : pureD.pureL cap = true) (hp : ∀ x ∈ l, PC prog g (D.str x :: cap) (.bool (f x))) :
  PC prog 126 [.rsl nn 1 (l.map D.str), .fn g cap] (.bool (l.any f)) := by
 have h := zin nn l hl f hc hp
 refine z2i 1 (by simp only [pureD.pureL, pureD, hc, z0g (f := D.str) (fun _ => rfl) l, Bool.and_self]) rfl (z23 [] func126 rfl (by decide +kernel) rfl ?_)
 show awp _ _ (Code.seq _ _) _ _
 repeat' (first | ((first | refine zqh fun K hK => ?_ | refine zqs (h) ?_); (simp (disch := omega) only [go_sem, Nat.reduceBEq, ↓reduceIte])) | refine nxt ?_ | refine zqu (by simp only [go_sem]; rfl) rfl ?_ | (refine hK _ ?_; clear hK K))
 refine z00 ?_
 rw [<- zil]
 by_cases h : z7e f l < l.length
 ·rw [if_pos h]; simp [h]
 ·rw [if_neg h]; simp [h]
theorem zio (nn : Bool) (l : List T) (hl : l.length <= maxLen) {g : FuncId} {cap : List D} (f : T -> Bool) (hc : pureD.pureL cap = true) (hp : ∀ x ∈ l, PC prog g (z1e x :: cap) (.bool (f x))) :
  PC prog 48 [.rsl nn 8 (l.map z1e), .fn g cap] (.int .i64 (if z7e f l < l.length then (z7e f l : Int) else -1)) := by
 unfold maxLen at hl
 refine z2i 1 (by simp only [pureD.pureL, pureD, hc, z0g (f := z1e) (z0b) l, Bool.and_self]) rfl (z23 [] func48 rfl (by decide +kernel) rfl ?_)
 show awp _ _ (Code.seq _ _) _ _
 repeat' (first | refine nxt ?_ | ((refine zqh fun K hK => ?_); (simp (disch := omega) only [go_sem, Nat.reduceBEq])) | (refine hK _ ?_; clear hK K))
 (refine z45 (fun U st => ∃ (i : _), U = l.length - i /\ st.t 0 = .rsl nn 8 (l.map z1e) /\ st.t 1 = .fn g cap /\ st.t 7 = .int .i64 l.length /\ st.t 8 = .int .i64 i /\ (i <= l.length) /\ (∀ j, (hj : j < i) -> (h : j < l.length) -> f l[j] = false)) ?_ ?_); rotate_left; (rintro U st ⟨i, rfl, q0, q1, q7, q8, qp0, qp1⟩); rotate_left
 ·(refine ⟨_, 0, rfl, ?_⟩); (simp (disch := omega) only [go_sem, Nat.reduceBEq, true_and, Int.natCast_zero])
  intro j hj; omega
 have hp := fun (h : i < l.length) => hp l[i] (List.getElem_mem h)
 repeat' (first | ((first | refine zqh fun K hK => ?_ | refine zqr fun K hK => ?_ | refine zqs (hp (by omega)) ?_); (simp (disch := omega) only [go_sem, Nat.reduceBEq, ↓reduceIte, reduceCtorEq, Nat.reduceAdd, q0, q1, q7, q8])) | ((first | refine zqd _ rfl (fun hc => ?_) (fun hc => ?_) | refine zqm _ rfl (fun hc => ?_) (fun hc => ?_)) <;> (((try simp only [z06] at hc); (try omega)))) | refine nxt ?_ | refine zqz ?_ | refine zqu (by simp only [go_sem]; rfl) rfl ?_ | (refine hK _ ?_; clear hK K))
 ·refine z1q ?_
  rw [z4y (k := i) (by omega) (fun j hj => qp1 j hj (by omega)) (fun h => by assumption), if_pos (by omega)]
 ·(refine Exists.intro _ (And.intro ?_ ⟨i + 1, rfl, ?_⟩)); rotate_left; (simp (disch := omega) only [go_sem, Nat.reduceBEq, q0, q1, q7, q8, true_and, Int.natCast_add, Int.natCast_one]); rotate_left
  ·omega
  ·refine ⟨by omega, fun j hj h => ?_⟩
   by_cases e : j = i
   ·subst e; assumption
   ·exact qp1 j (by omega) h
 ·refine z1q ?_
  have hi : i = l.length := by omega
  subst hi
  rw [z4y (k := l.length) (by omega) (fun j hj => qp1 j hj (by omega)) (fun h => by omega), if_neg (by omega)]
def odd (b : UInt8) : Bool := decide ((b.toNat : Int) < 33) || decide (126 < (b.toNat : Int))
theorem odd_ink : (fun b : UInt8 => !odd b) = ink := by
 funext b
 unfold odd ink
 rcases Nat.lt_or_ge b.toNat 33 with h | h
 ·rw [decide_eq_true (show (b.toNat : Int) < 33 by omega), decide_eq_false (show ¬ (33 <= b.toNat /\ b.toNat <= 126) by omega)]; rfl
 ·rw [decide_eq_false (show ¬ (b.toNat : Int) < 33 by omega)]
  rcases Nat.lt_or_ge 126 b.toNat with h2 | h2
  ·rw [decide_eq_true (show (126 : Int) < b.toNat by omega), decide_eq_false (show ¬ (33 <= b.toNat /\ b.toNat <= 126) by omega)]; rfl
  ·rw [decide_eq_false (show ¬ (126 : Int) < b.toNat by omega), decide_eq_true (show 33 <= b.toNat /\ b.toNat <= 126 by omega)]; rfl
theorem any_odd (l : List UInt8) : l.any odd = !l.all ink := by
 rw [<- odd_ink, <- List.not_any_eq_all_not, Bool.not_not]
theorem zua (s : ByteArray) : zoo s = (bl s).map zu9 := rfl
theorem zyy (b : UInt8) : PC prog 135 [zu9 b] (.bool (odd b)) := by
 refine z2i 1 rfl rfl (z23 [] func135 rfl (by decide +kernel) rfl ?_)
 show awp _ _ (Code.seq _ _) _ _
 repeat' (first | ((refine zqh fun K hK => ?_); (simp (disch := omega) only [go_sem, Nat.reduceBEq, ↓reduceIte, zu9])) | refine nxt ?_ | refine zqu (by simp only [go_sem]; rfl) rfl ?_ | (refine hK _ ?_; clear hK K) | (refine zqf (fun hb => ?_) (fun hb => ?_) <;> (have hb2 := hb; try simp only [z06] at hb2) <;> ((first | have F := eq_false hb2 | have F := eq_true hb2); (simp (disch := omega) only [go_sem, Nat.reduceBEq, ↓reduceIte, F]); clear hb F; (try omega))))
 ·exact z00 (by unfold odd; rw [decide_eq_false (show ¬ (b.toNat : Int) < 33 by assumption)]; rfl)
 ·exact z00 (by unfold odd; rw [decide_eq_true (show (b.toNat : Int) < 33 by assumption)]; rfl)
theorem zgp {s : ByteArray} (h : ¬ s = ⟨#[]⟩) : 1 <= s.size := by
 rcases Nat.eq_zero_or_pos s.size with h0 | h0
 ·exfalso; apply h
  obtain ⟨a⟩ := s
  rw [ByteArray.mk.injEq]
  exact Array.eq_empty_of_size_eq_zero h0
 ·exact h0
theorem zyz (s : ByteArray) (hs : s.size <= maxLen) : PC prog 128 [.str s] (.bool (za6 s)) := by
 have h := ze3 true (bl s) (by rw [z1i]; exact hs) (cap := []) odd rfl (fun b _ => zyy b)
 rw [any_odd] at h
 unfold maxLen at hs
 refine z2i 1 rfl rfl (z23 [] func128 rfl (by decide +kernel) rfl ?_)
 show awp _ _ (Code.seq _ _) _ _
 repeat' (first | ((first | refine zqh fun K hK => ?_ | refine zqs (h) ?_); (simp (disch := omega) only [go_sem, Nat.reduceBEq, ↓reduceIte])) | refine nxt ?_ | refine zqu (by simp only [go_sem]; rfl) rfl ?_ | (refine hK _ ?_; clear hK K) | (refine zqf (fun hb => ?_) (fun hb => ?_) <;> (have hb2 := hb; try simp only [z06] at hb2) <;> ((first | have F := eq_false hb2 | have F := eq_true hb2); (simp (disch := omega) only [go_sem, Nat.reduceBEq, ↓reduceIte, F, zua]); clear hb F; (try omega))))
 ·have hpos := zgp (by assumption)
  exact z00 (by unfold za6; rw [decide_eq_true (by omega), Bool.true_and, Bool.not_not])
 ·exact z00 (by unfold za6; rw [decide_eq_false (by omega)]; rfl)
 ·have he : s = ⟨#[]⟩ := by assumption
  subst he
  exact z00 rfl
theorem zr3 (s : ByteArray) (hs : s.size <= maxLen) : PC prog 127 [.str s] (.bool (!za6 s)) := by
 have h := zyz s hs
 refine z2i 1 rfl rfl (z23 [] func127 rfl (by decide +kernel) rfl ?_)
 show awp _ _ (Code.seq _ _) _ _
 repeat' (first | ((first | refine zqh fun K hK => ?_ | refine zqs (h) ?_); (simp (disch := omega) only [go_sem, Nat.reduceBEq])) | refine nxt ?_ | refine zqu (by simp only [go_sem]; rfl) rfl ?_ | (refine hK _ ?_; clear hK K))
 exact z00 rfl
theorem zr4 (nn : Bool) (l : List ByteArray) (hl : l.length <= maxLen) (hs : ∀ s ∈ l, s.size <= maxLen) : PC prog 112 [.rsl nn 1 (l.map .str)] (.bool (seqB l)) := by
 have h := ze4 nn l hl (cap := []) (fun s => !za6 s) rfl (fun s hs' => zr3 s (hs s hs'))
 rw [show (l.any fun s => !za6 s) = !l.all za6 from by rw [<- List.not_all_eq_any_not]] at h
 unfold maxLen at hl
 refine z2i 1 (by simp only [pureD.pureL, pureD, z0g (f := D.str) (fun _ => rfl) l, Bool.and_self]) rfl (z23 [] func112 rfl (by decide +kernel) rfl ?_)
 show awp _ _ (Code.seq _ _) _ _
 repeat' (first | ((first | refine zqh fun K hK => ?_ | refine zqs (h) ?_); (simp (disch := omega) only [go_sem, Nat.reduceBEq, ↓reduceIte])) | refine nxt ?_ | refine zqu (by simp only [go_sem]; rfl) rfl ?_ | (refine hK _ ?_; clear hK K) | (refine zqf (fun hb => ?_) (fun hb => ?_) <;> (have hb2 := hb; try simp only [z06] at hb2) <;> ((first | have F := eq_false hb2 | have F := eq_true hb2); (simp (disch := omega) only [go_sem, Nat.reduceBEq, ↓reduceIte, F]); clear hb F; (try omega))))
 ·exact z00 (by unfold seqB; rw [decide_eq_true (by omega), Bool.true_and, Bool.not_not])
 ·exact z00 (by unfold seqB; rw [decide_eq_false (by omega)]; rfl)
theorem zub (l : List Wd) (hl : l.length <= 1000000) (hs : ∀ w ∈ l, w.text.size <= maxLen) : PC prog 92 [z0t l] (.bool (zm7 l)) := by
 have h := zr4 false (l.map (·.text)) (by unfold maxLen; simp; omega) (fun s hs' => by obtain ⟨w, hw, rfl⟩ := List.mem_map.1 hs'; exact hs w hw)
 refine z2i 1 (by simp only [pureD.pureL, z0r, Bool.and_self]) rfl (z23 [3] func92 rfl (by decide +kernel) rfl ?_)
 show awp _ _ (Code.seq _ _) _ _
 repeat' (first | refine nxt ?_ | ((refine zqh fun K hK => ?_); (simp (disch := omega) only [go_sem, Nat.reduceBEq, ↓reduceIte, z0t])) | (refine hK _ ?_; clear hK K))
 (refine z45 (fun U st => ∃ (i : _), U = l.length - i /\ st.t 0 = z0t l /\ st.t 6 = z0t l /\ st.t 7 = .int .i64 l.length /\ st.t 8 = .int .i64 i /\ st.t 3 = .osl 0 i /\ st.H 0 = some (.row 9 i (((l.take i).map (·.text)).map .str)) /\ (i <= l.length) /\ (1 <= st.nx)) ?_ ?_); rotate_left; (rintro U st ⟨i, rfl, q0, q6, q7, q8, q3, qH0, qp0, qp1⟩); rotate_left
 ·(refine ⟨_, 0, rfl, ?_⟩); (simp (disch := omega) only [go_sem, Nat.reduceBEq, Nat.reduceLeDiff, and_self, Int.natCast_zero, List.map_nil, z0t])
 have htk : ∀ h : i < l.length, l.take (i + 1) = l.take i ++ [l[i]] := fun h => List.take_succ_eq_append_getElem h
 repeat' (first | ((first | refine zqh fun K hK => ?_ | refine zqr fun K hK => ?_); (simp (disch := omega) only [go_sem, Nat.reduceBEq, ↓reduceIte, reduceCtorEq, Nat.reduceAdd, Nat.reduceLeDiff, Nat.reduceLT, q0, q6, q7, q8, q3, qH0, z0t])) | (refine zqd _ rfl ?_ ?_ <;> intro hc <;> (((try simp only [z06] at hc); (try omega)))) | refine nxt ?_ | refine zqz ?_ | refine zqu (by simp only [go_sem]; rfl) rfl ?_ | (refine hK _ ?_; clear hK K) | (refine zqf (fun hb => ?_) (fun hb => ?_) <;> (have hb2 := hb; try simp only [z06] at hb2) <;> ((first | have F := eq_false hb2 | have F := eq_true hb2); (simp (disch := omega) only [go_sem, Nat.reduceBEq, ↓reduceIte, F, q3]); clear hb F; (try omega))))
 ·have htk := htk (by omega)
  (refine Exists.intro _ (And.intro ?_ ⟨i + 1, rfl, ?_⟩)); rotate_left; (simp (disch := omega) only [go_sem, Nat.reduceBEq, Nat.reduceLeDiff, q0, q6, q7, q8, q3, qH0, true_and, and_true, Int.natCast_add, Int.natCast_one, List.map_append, List.map_cons, List.map_nil, htk]); rotate_left
  ·omega
  ·omega
 ·have hi : i = l.length := by omega
  subst hi
  rw [List.take_length] at qH0
  refine z3x (PC.borrow h rfl 3 (z07 (z7t 1 qH0 z87 zbt (by simp) (zer _)) z3j)) ?_
  (try (simp (disch := omega) only [go_sem, Nat.reduceBEq, ↓reduceIte])); repeat' (first | refine nxt ?_ | refine zqu (by simp only [go_sem]; rfl) rfl ?_ | (refine hK _ ?_; clear hK K))
  exact z00 (by rw [zjf, decide_eq_true (by omega)]; rfl)
 ·exact z00 (by rw [zjf, decide_eq_false (by omega)]; rfl)
def nameL : List ByteArray := [⟨#[98, 111, 111, 107]⟩, ⟨#[112, 97, 114, 116]⟩, ⟨#[115, 101, 99, 116, 105, 111, 110]⟩, ⟨#[112, 97, 114, 97, 103, 114, 97, 112, 104]⟩, ⟨#[116, 97, 98, 108, 101]⟩, ⟨#[114, 111, 119]⟩, ⟨#[99, 101, 108, 108]⟩, ⟨#[110, 111, 116, 101]⟩]
def zmh (k : Int) : ByteArray := if 0 <= k /\ k < 8 then nameL.getD k.toNat ByteArray.empty else ByteArray.empty
theorem zz0 {k : Int} (h : 0 <= k /\ k < 8) : k = 0 \/ k = 1 \/ k = 2 \/ k = 3 \/ k = 4 \/ k = 5 \/ k = 6 \/ k = 7 := by omega
theorem zmi (k : Int) : PC prog 90 [.int .i64 k] (.str (zmh k)) := by
 refine z2i 1 rfl rfl (z23 [] func90 rfl (by decide +kernel) rfl ?_)
 show awp _ _ (Code.seq _ _) _ _
 have h8 : ((8 : Nat) : Int) = 8 := rfl
 by_cases O : 0 <= k /\ k < 8
 ·rcases zz0 O with rfl | rfl | rfl | rfl | rfl | rfl | rfl | rfl
  all_goals clear O
  all_goals (repeat' (first | refine nxt ?_ | ((refine zqh fun K hK => ?_); (simp (disch := omega) only [go_sem, Nat.reduceBEq, ↓reduceIte, reduceCtorEq, Nat.reduceAdd, Int.reduceLT, Int.reduceLE, Int.reduceToNat, h8])) | (refine zqd _ rfl ?_ ?_ <;> intro hc <;> (first | (cases hc; done) | ((try simp only [] at hc); (try omega)))) | refine zqu (by simp only [go_sem]; rfl) rfl ?_ | (refine hK _ ?_; clear hK K)))
  all_goals exact z1p rfl (Le.refl _)
 ·rw [show zmh k = ByteArray.empty from if_neg O]
  repeat' (first | refine nxt ?_ | ((refine zqh fun K hK => ?_); (simp (disch := omega) only [go_sem, Nat.reduceBEq, ↓reduceIte])) | (refine zqd _ rfl ?_ ?_ <;> intro hc <;> (first | (cases hc; done) | ((try simp only [z06] at hc); (try omega)))) | refine zqu (by simp only [go_sem]; rfl) rfl ?_ | (refine hK _ ?_; clear hK K) | (refine zqf (fun hb => ?_) (fun hb => ?_) <;> (have hb2 := hb; try simp only [z06] at hb2) <;> ((first | have F := eq_false hb2 | have F := eq_true hb2); (simp (disch := omega) only [go_sem, Nat.reduceBEq, ↓reduceIte, F]); clear hb F; (try omega))))
  all_goals exact z1p rfl (Le.refl _)
def belowL : List (List Int) := [[1, 2], [2], [3, 4, 7], [3, 4, 7], [5], [6], [], []]
def z38 (p k : Int) : Bool := if 0 <= p /\ p < 8 then (belowL.getD p.toNat []).any (fun x => decide (k = x)) else false
theorem zuc (l : List Int) (hl : l.length <= maxLen) (k : Int) : PC prog 129 [zad l, .int .i64 k] (.int .i64 (if z7e (fun x => decide (k = x)) l < l.length then (z7e (fun x => decide (k = x)) l : Int) else -1)) := by
 unfold maxLen at hl
 refine z2i 1 (by simp only [pureD.pureL, pureD, z6e, Bool.and_self]) rfl (z23 [] func129 rfl (by decide +kernel) rfl ?_)
 show awp _ _ (Code.seq _ _) _ _
 repeat' (first | refine nxt ?_ | ((refine zqh fun K hK => ?_); (simp (disch := omega) only [go_sem, Nat.reduceBEq, zad])) | (refine hK _ ?_; clear hK K))
 (refine z45 (fun U st => ∃ (i : _), U = l.length - i /\ st.t 0 = zad l /\ st.t 1 = .int .i64 k /\ st.t 7 = .int .i64 l.length /\ st.t 8 = .int .i64 i /\ (i <= l.length) /\ (∀ j, (hj : j < i) -> (h : j < l.length) -> decide (k = l[j]) = false)) ?_ ?_); rotate_left; (rintro U st ⟨i, rfl, q0, q1, q7, q8, qp0, qp1⟩); rotate_left
 ·(refine ⟨_, 0, rfl, ?_⟩); (simp (disch := omega) only [go_sem, Nat.reduceBEq, true_and, Int.natCast_zero, zad])
  intro j hj; omega
 repeat' (first | ((first | refine zqh fun K hK => ?_ | refine zqr fun K hK => ?_); (simp (disch := omega) only [go_sem, Nat.reduceBEq, ↓reduceIte, reduceCtorEq, Nat.reduceAdd, q0, q1, q7, q8, zad])) | ((first | refine zqd _ rfl (fun hc => ?_) (fun hc => ?_) | refine zqm _ rfl (fun hc => ?_) (fun hc => ?_)) <;> (((try simp only [z06] at hc); (try omega)))) | refine nxt ?_ | refine zqz ?_ | refine zqu (by simp only [go_sem]; rfl) rfl ?_ | (refine hK _ ?_; clear hK K))
 ·refine z1q ?_
  have hf := z4y (f := fun x => decide (k = x)) (l := l) (k := i) (by omega) (fun j hj => qp1 j hj (by omega)) (fun h => decide_eq_true (by assumption))
  rw [hf, if_pos (by omega)]
 ·(refine Exists.intro _ (And.intro ?_ ⟨i + 1, rfl, ?_⟩)); rotate_left; (simp (disch := omega) only [go_sem, Nat.reduceBEq, q0, q1, q7, q8, true_and, Int.natCast_add, Int.natCast_one]); rotate_left
  ·omega
  ·refine ⟨by omega, fun j hj h => ?_⟩
   by_cases e : j = i
   ·subst e; exact decide_eq_false (by assumption)
   ·exact qp1 j (by omega) h
 ·refine z1q ?_
  have hi : i = l.length := by omega
  subst hi
  have hf := z4y (f := fun x => decide (k = x)) (l := l) (k := l.length) (by omega) (fun j hj => qp1 j hj (by omega)) (fun h => by omega)
  rw [hf, if_neg (by omega)]
theorem zka (l : List Int) (hl : l.length <= maxLen) (k : Int) : PC prog 113 [zad l, .int .i64 k] (.bool (l.any fun x => decide (k = x))) := by
 have h := zuc l hl k
 refine z2i 1 (by simp only [pureD.pureL, pureD, z6e, Bool.and_self]) rfl (z23 [] func113 rfl (by decide +kernel) rfl ?_)
 show awp _ _ (Code.seq _ _) _ _
 repeat' (first | ((first | refine zqh fun K hK => ?_ | refine zqs (h) ?_); (simp (disch := omega) only [go_sem, Nat.reduceBEq, ↓reduceIte])) | refine nxt ?_ | refine zqu (by simp only [go_sem]; rfl) rfl ?_ | (refine hK _ ?_; clear hK K))
 refine z00 ?_
 rw [<- zil]
 by_cases h : z7e (fun x => decide (k = x)) l < l.length
 ·rw [if_pos h]; simp [h]
 ·rw [if_neg h]; simp [h]
theorem ziq (p k : Int) : PC prog 93 [.int .i64 p, .int .i64 k] (.bool (z38 p k)) := by
 refine z2i 1 rfl rfl (z23 [] func93 rfl (by decide +kernel) rfl ?_)
 show awp _ _ (Code.seq _ _) _ _
 have h8 : ((8 : Nat) : Int) = 8 := rfl
 by_cases O : 0 <= p /\ p < 8
 ·have hc := fun l hl => zka l hl k
  rcases zz0 O with rfl | rfl | rfl | rfl | rfl | rfl | rfl | rfl
  all_goals clear O
  ·repeat' (first | ((first | refine zqh fun K hK => ?_ | ((refine zqs (PC.le (hc [1, 2] (by decide)) ?_ ?_) ?_); (focus ((rfl); done)); (focus ((repeat' (first | exact trivial | exact Le.refl _ | exact Le.rsl | refine ⟨?_, ?_⟩)); done)))); (simp (disch := omega) only [go_sem, Nat.reduceBEq, ↓reduceIte, reduceCtorEq, Nat.reduceAdd, Int.reduceLT, Int.reduceLE, Int.reduceToNat, h8])) | refine nxt ?_ | refine zqu (by simp only [go_sem]; rfl) rfl ?_ | (refine hK _ ?_; clear hK K))
   exact z00 (by simp [z38, belowL])
  ·repeat' (first | ((first | refine zqh fun K hK => ?_ | ((refine zqs (PC.le (hc [2] (by decide)) ?_ ?_) ?_); (focus ((rfl); done)); (focus ((repeat' (first | exact trivial | exact Le.refl _ | exact Le.rsl | refine ⟨?_, ?_⟩)); done)))); (simp (disch := omega) only [go_sem, Nat.reduceBEq, ↓reduceIte, reduceCtorEq, Nat.reduceAdd, Int.reduceLT, Int.reduceLE, Int.reduceToNat, h8])) | refine nxt ?_ | refine zqu (by simp only [go_sem]; rfl) rfl ?_ | (refine hK _ ?_; clear hK K))
   exact z00 (by simp [z38, belowL])
  ·repeat' (first | ((first | refine zqh fun K hK => ?_ | ((refine zqs (PC.le (hc [3, 4, 7] (by decide)) ?_ ?_) ?_); (focus ((rfl); done)); (focus ((repeat' (first | exact trivial | exact Le.refl _ | exact Le.rsl | refine ⟨?_, ?_⟩)); done)))); (simp (disch := omega) only [go_sem, Nat.reduceBEq, ↓reduceIte, reduceCtorEq, Nat.reduceAdd, Int.reduceLT, Int.reduceLE, Int.reduceToNat, h8])) | refine nxt ?_ | refine zqu (by simp only [go_sem]; rfl) rfl ?_ | (refine hK _ ?_; clear hK K))
   exact z00 (by simp [z38, belowL])
  ·repeat' (first | ((first | refine zqh fun K hK => ?_ | ((refine zqs (PC.le (hc [3, 4, 7] (by decide)) ?_ ?_) ?_); (focus ((rfl); done)); (focus ((repeat' (first | exact trivial | exact Le.refl _ | exact Le.rsl | refine ⟨?_, ?_⟩)); done)))); (simp (disch := omega) only [go_sem, Nat.reduceBEq, ↓reduceIte, reduceCtorEq, Nat.reduceAdd, Int.reduceLT, Int.reduceLE, Int.reduceToNat, h8])) | refine nxt ?_ | refine zqu (by simp only [go_sem]; rfl) rfl ?_ | (refine hK _ ?_; clear hK K))
   exact z00 (by simp [z38, belowL])
  ·repeat' (first | ((first | refine zqh fun K hK => ?_ | ((refine zqs (PC.le (hc [5] (by decide)) ?_ ?_) ?_); (focus ((rfl); done)); (focus ((repeat' (first | exact trivial | exact Le.refl _ | exact Le.rsl | refine ⟨?_, ?_⟩)); done)))); (simp (disch := omega) only [go_sem, Nat.reduceBEq, ↓reduceIte, reduceCtorEq, Nat.reduceAdd, Int.reduceLT, Int.reduceLE, Int.reduceToNat, h8])) | refine nxt ?_ | refine zqu (by simp only [go_sem]; rfl) rfl ?_ | (refine hK _ ?_; clear hK K))
   exact z00 (by simp [z38, belowL])
  ·repeat' (first | ((first | refine zqh fun K hK => ?_ | ((refine zqs (PC.le (hc [6] (by decide)) ?_ ?_) ?_); (focus ((rfl); done)); (focus ((repeat' (first | exact trivial | exact Le.refl _ | exact Le.rsl | refine ⟨?_, ?_⟩)); done)))); (simp (disch := omega) only [go_sem, Nat.reduceBEq, ↓reduceIte, reduceCtorEq, Nat.reduceAdd, Int.reduceLT, Int.reduceLE, Int.reduceToNat, h8])) | refine nxt ?_ | refine zqu (by simp only [go_sem]; rfl) rfl ?_ | (refine hK _ ?_; clear hK K))
   exact z00 (by simp [z38, belowL])
  ·repeat' (first | ((first | refine zqh fun K hK => ?_ | ((refine zqs (PC.le (hc [] (by decide)) ?_ ?_) ?_); (focus ((rfl); done)); (focus ((repeat' (first | exact trivial | exact Le.refl _ | exact Le.nil _ | refine ⟨?_, ?_⟩)); done)))); (simp (disch := omega) only [go_sem, Nat.reduceBEq, ↓reduceIte, reduceCtorEq, Nat.reduceAdd, Int.reduceLT, Int.reduceLE, Int.reduceToNat, h8])) | refine nxt ?_ | refine zqu (by simp only [go_sem]; rfl) rfl ?_ | (refine hK _ ?_; clear hK K))
   exact z00 (by simp [z38, belowL])
  ·repeat' (first | ((first | refine zqh fun K hK => ?_ | ((refine zqs (PC.le (hc [] (by decide)) ?_ ?_) ?_); (focus ((rfl); done)); (focus ((repeat' (first | exact trivial | exact Le.refl _ | exact Le.nil _ | refine ⟨?_, ?_⟩)); done)))); (simp (disch := omega) only [go_sem, Nat.reduceBEq, ↓reduceIte, reduceCtorEq, Nat.reduceAdd, Int.reduceLT, Int.reduceLE, Int.reduceToNat, h8])) | refine nxt ?_ | refine zqu (by simp only [go_sem]; rfl) rfl ?_ | (refine hK _ ?_; clear hK K))
   exact z00 (by simp [z38, belowL])
 ·rw [show z38 p k = false from if_neg O]
  repeat' (first | ((refine zqh fun K hK => ?_); (simp (disch := omega) only [go_sem, Nat.reduceBEq, ↓reduceIte])) | refine nxt ?_ | refine zqu (by simp only [go_sem]; rfl) rfl ?_ | (refine hK _ ?_; clear hK K) | (refine zqf (fun hb => ?_) (fun hb => ?_) <;> (have hb2 := hb; try simp only [z06] at hb2) <;> ((first | have F := eq_false hb2 | have F := eq_true hb2); (simp (disch := omega) only [go_sem, Nat.reduceBEq, ↓reduceIte, reduceCtorEq, F]); clear hb F; (try omega))))
  all_goals exact z00 rfl
namespace Tr
def zx5 (l : List Nat) : Nat := l.foldl (fun d x => max d (1 + x)) 0
def depT (t : T) : Nat := zf2 (fun _ l => zx5 l) t
theorem zd7 (t : T) : depT t = zx5 (t.kids.map depT) := by unfold depT; rw [z3k]
theorem zlq (l : List Nat) (x : Nat) : zx5 (l ++ [x]) = max (zx5 l) (1 + x) := by unfold zx5; rw [List.foldl_append]; rfl
theorem depF_le {l : List Nat} : ∀ (a : Nat), (a <= l.foldl (fun d x => max d (1 + x)) a) /\ ∀ x ∈ l, 1 + x <= l.foldl (fun d x => max d (1 + x)) a := by
 induction l with
 | nil => intro a; simp
 | cons y l ih =>
  intro a
  simp only [List.foldl_cons]
  obtain ⟨h1, h2⟩ := ih (max a (1 + y))
  refine ⟨by omega, fun x hx => ?_⟩
  rcases List.mem_cons.1 hx with rfl | hx
  ·omega
  ·exact h2 x hx
theorem z9v {t k : T} (h : k ∈ t.kids) : 1 + depT k <= depT t := by
 rw [zd7 t]
 exact (depF_le 0).2 _ (List.mem_map.2 ⟨k, h, rfl⟩)
end Tr
theorem pc_Depth : ∀ t : T, zic t = true -> depT t <= 1000000000 -> PC prog 72 [z1e t] (.int .i64 (depT t)) := by
 refine z4l fun t ih hfit V => ?_
 obtain ⟨h1, h2, h3, h4⟩ := (z8p t).1 hfit
 unfold maxLen at h3
 refine z2i 1 (by simp only [pureD.pureL, z0b, Bool.and_self]) rfl (z23 [] func72 rfl (by decide +kernel) rfl ?_)
 show awp _ _ (Code.seq _ _) _ _
 repeat' (first | refine nxt ?_ | ((refine zqh fun K hK => ?_); (simp (disch := omega) only [go_sem, Nat.reduceBEq, ↓reduceIte, reduceCtorEq, Nat.reduceAdd])) | (refine hK _ ?_; clear hK K))
 (refine z45 (fun U st => ∃ (i : _), U = t.kids.length - i /\ st.t 3 = .int .i64 (zx5 ((t.kids.take i).map depT) : Nat) /\ st.t 7 = z0n t.kids /\ st.t 8 = .int .i64 t.kids.length /\ st.t 9 = .int .i64 i /\ (i <= t.kids.length) /\ (1 <= st.nx)) ?_ ?_); rotate_left; (rintro U st ⟨i, rfl, q3, q7, q8, q9, qp0, qp1⟩); rotate_left
 ·(refine ⟨_, 0, rfl, ?_⟩); (simp (disch := omega) only [go_sem, Nat.reduceBEq, Nat.reduceLeDiff, true_and, and_true, and_self, Int.natCast_zero, List.map_nil, z0n])
  rfl
 have hin := fun (h : i < t.kids.length) => ih t.kids[i] (List.getElem_mem h) (h4 _ (List.getElem_mem h)) (by have := z9v (List.getElem_mem h); omega)
 have O := fun (h : i < t.kids.length) => z9v (t := t) (List.getElem_mem h)
 have hsn : ∀ h : i < t.kids.length, zx5 ((t.kids.take (i + 1)).map depT) = max (zx5 ((t.kids.take i).map depT)) (1 + depT t.kids[i]) := fun h => by
  rw [List.take_succ_eq_append_getElem h, List.map_append, List.map_cons, List.map_nil, zlq]
 repeat' (first | ((first | refine zqh fun K hK => ?_ | refine zqr fun K hK => ?_ | refine zqs (hin (by omega)) ?_); (simp (disch := omega) only [go_sem, Nat.reduceBEq, ↓reduceIte, reduceCtorEq, Nat.reduceAdd, Nat.reduceLeDiff, q3, q7, q8, q9, z0n])) | (refine zqd _ rfl ?_ ?_ <;> intro hc <;> (((try simp only [z06] at hc); (try omega)))) | refine nxt ?_ | refine zqz ?_ | refine zqu (by simp only [go_sem]; rfl) rfl ?_ | (refine hK _ ?_; clear hK K))
 ·have hs := hsn (by omega)
  (refine Exists.intro _ (And.intro ?_ ⟨i + 1, rfl, ?_⟩)); rotate_left; (simp (disch := omega) only [go_sem, Nat.reduceBEq, Nat.reduceLeDiff, q3, q7, q8, q9, true_and, and_true, Int.natCast_add, Int.natCast_one, hs]); rotate_left
  ·omega
  ·have := O (by omega); refine ⟨?_, by omega⟩
   rw [z3i (by omega)]; omega
 ·refine z1q ?_
  have hi : i = t.kids.length := by omega
  subst hi
  rw [List.take_length, <- zd7]
namespace Tr
def z1z (id : Idv) (t : T) : List T := zf2 (fun t l => if t.id = id then [t] else match l.find? (fun w => !w.isEmpty) with
 | some w => t :: w
 | none => []) t
theorem zb0 (id : Idv) (t : T) : z1z id t = if t.id = id then [t] else match (t.kids.map (z1z id)).find? (fun w => !w.isEmpty) with
  | some w => t :: w
  | none => [] := by
 unfold z1z; rw [z3k]
theorem zlr {α β : Type} (f : α -> List β) : ∀ {l : List α} {i : Nat}, (∀ j, (hj : j < i) -> (h : j < l.length) -> f l[j] = []) -> l.length <= i -> (l.map f).find? (fun w => !w.isEmpty) = none
 | [], _, _, _ => rfl
 | x :: l, i, h, hi => by
  rw [List.map_cons, List.find?_cons]
  have h0 := h 0 (by simp at hi; omega) (by simp)
  simp only [List.getElem_cons_zero] at h0
  rw [h0]
  exact zlr f (l := l) (i := i - 1) (fun j hj hl => h (j + 1) (by omega) (by simpa using hl)) (by simp at hi; omega)
theorem zls {α β : Type} (f : α -> List β) : ∀ {l : List α} {i : Nat} (hi : i < l.length), (∀ j, (hj : j < i) -> (h : j < l.length) -> f l[j] = []) -> f l[i] ≠ [] -> (l.map f).find? (fun w => !w.isEmpty) = some (f l[i])
 | x :: l, 0, _, _, hn => by
  simp only [List.getElem_cons_zero] at hn ⊢
  rw [List.map_cons, List.find?_cons]
  cases hf : f x with
  | nil => exact (hn hf).elim
  | cons a b => rfl
 | x :: l, i + 1, hi, h, hn => by
  rw [List.map_cons, List.find?_cons]
  have h0 := h 0 (by omega) (by simp)
  simp only [List.getElem_cons_zero] at h0
  rw [h0]
  simp only [List.getElem_cons_succ] at hn ⊢
  exact zls f (l := l) (i := i) (by simpa using hi) (fun j hj hl => h (j + 1) (by omega) (by simpa using hl)) hn
end Tr
theorem zc7 : ∀ w : List T, z1m 8 (w.map z1e) = some (w.flatMap z08)
 | [] => rfl
 | t :: w => by
  rw [List.map_cons, List.flatMap_cons]
  unfold z1m
  rw [zc7 w]
  simp only [z1e, z48, z2u, if_true]
theorem wayT_len (id : Idv) : ∀ t : T, (z1z id t).length <= 1 + depT t := by
 refine z4l fun t ih => ?_
 rw [zb0]
 split
 ·simp
 ·split
  ·rename_i w hw
   have hm := List.mem_of_find?_eq_some hw
   obtain ⟨k, O, rfl⟩ := List.mem_map.1 hm
   have h1 := ih k O
   have h2 := z9v O
   simp only [List.length_cons]; omega
  ·simp
namespace Tr
def smB (t : T) : Bool := zf2 (fun t l => decide (t.head.length <= 1000000) && (decide (t.words.length <= 1000000) && (decide (t.kids.length <= 1000000) && l.all id))) t
theorem sm_iff (t : T) : smB t = true ↔ t.head.length <= 1000000 /\ t.words.length <= 1000000 /\ t.kids.length <= 1000000 /\ ∀ k ∈ t.kids, smB k = true := by
 unfold smB
 rw [z3k]
 simp only [List.all_map, Bool.and_eq_true, decide_eq_true_iff, List.all_eq_true]
 rfl
theorem sm_fit : ∀ t : T, smB t = true -> zic t = true := by
 refine z4l fun t ih h => ?_
 obtain ⟨h1, h2, h3, h4⟩ := (sm_iff t).1 h
 exact (z8p t).2 ⟨by unfold maxLen; omega, by unfold maxLen; omega, by unfold maxLen; omega, fun k O => ih k O (h4 k O)⟩
end Tr
theorem zkc {P : Program} {H : HM} {id e : Nat} {cs : List D} (k : Nat) (hH : H id = some (.box e cs)) (ha : z05 P e = true) (hp : pureD.pureL cs = true) : z2m P H (k + 2) (.ptr id 0) = some (.rptr (.agg cs)) := by
 unfold z2m
 simp only [pureD, Bool.false_eq_true, if_false, hH, ha, true_or, and_self, if_true, zc4 k cs hp, Option.map_some]
namespace Tr
theorem ziu (id : Idv) : ∀ t : T, ∀ x ∈ z1z id t, x ∈ nodesT t := by
 refine z4l fun t ih x hx => ?_
 rw [zb0] at hx
 split at hx
 ·rw [List.mem_singleton.1 hx]; exact z0a t
 ·split at hx
  ·rename_i w hw
   obtain ⟨k, O, rfl⟩ := List.mem_map.1 (List.mem_of_find?_eq_some hw)
   rcases List.mem_cons.1 hx with rfl | hx
   ·exact z0a _
   ·exact z0j O (ih k O x hx)
  ·cases hx
def T.zero : T := .mk Idv.zero 0 ByteArray.empty [] [] []
def findR (id : Idv) (t : T) : T × Bool := match (z1z id t).getLast? with
 | some x => (x, true)
 | none => (T.zero, false)
def za3 (id : Idv) (t : T) : Idv × Int × Bool :=
 let w := z1z id t
 if h : w.length < 2 then (Idv.zero, -1, false) else
  let p := w[w.length - 2]
  let n := z7e (fun k => !(z1z id k).isEmpty) p.kids
  (p.id, if n < p.kids.length then (n : Int) else -1, true)
def zr6 (id : Idv) (t : T) : List Idv := ((z1z id t).dropLast.map T.id).reverse
end Tr
theorem zbj {α : Type} : ∀ (l : List α) (h : l ≠ []), l.getLast? = some (l[l.length - 1]'(by have := List.length_pos_iff.2 h; omega))
 | l, h => by rw [List.getLast?_eq_getElem?, List.getElem?_eq_getElem (by have := List.length_pos_iff.2 h; omega)]
theorem zz5 : Le (.agg [.int .i64 0, .int .i64 0, .int .i64 0, .int .i64 0, .str ByteArray.empty, .nil, .nil, .nil]) (z1e T.zero) := by
 rw [z1e, z0s]
 exact Le.agg ⟨Le.refl _, Le.refl _, Le.refl _, Le.refl _, Le.refl _, Le.nil 4, Le.nil 4, Le.nil 8, trivial⟩
end
end Go.Proofs.YtfechgagcgbldaaGreatDoor
