import Derived.Test.YtfechgagcgbldaaDoorWB
import Derived.ProofKit
import Derived.ChangeSlices
import Derived.Below
import Derived.ChangeArms
import Derived.DataReads
import Derived.Test.YtfechgagcgbldaaDoorProg
import Derived.KernelRfl
import Derived.Test.YtfechgagcgbldaaDoorRows
import Derived.OpenShut
import Derived.LaidMore
import Derived.MakeChecks
import Derived.FnData
import Derived.Carry
import Derived.WideShapes
import Derived.Laws.RangeAny
/-
 Lemmas of the claim. No condition but those that each names.
-/
set_option linter.unusedSimpArgs false
set_option linter.unusedVariables false
set_option maxRecDepth 100000
set_option maxHeartbeats 8000000
set_option linter.unusedSectionVars false
namespace Go.Proofs.YtfechgagcgbldaaDoor.Abs
open Go.RowKit

theorem z28 {n : Int} (h : -9223372036854775808 <= n /\ n <= 9223372036854775807) : IntKind.i64.wrap n = n := by rw [IntKind.wrap_i64]; omega
theorem z2u {α : Type} (f : α -> D) (l : List α) (k : Nat) (h : k < l.length) : zjj (l.map f) (k : Int) = some (f l[k]) := by
 unfold zjj
 rw [if_pos ⟨by omega, by simpa using h⟩]
 simp [h]
theorem z0a {α : Type} {f : α -> D} (h : ∀ x, pureD (f x) = true) : ∀ (l : List α), pureD.pureL (l.map f) = true
 | [] => rfl
 | x :: l => by simp only [List.map_cons, pureD.pureL, h x, z0a h l, Bool.and_self]
theorem z0b {P : Program} {H : HM} {d : D} (k : Nat) (h : pureD d = true) : z2p P H (k + 1) d = some d := by unfold z2p; rw [if_pos h]
theorem zao {P : Program} {H : HM} (k : Nat) : ∀ (ds : List D), pureD.pureL ds = true -> ze7 (z2p P H (k + 1)) ds = some ds
 | [], _ => rfl
 | d :: ds, h => by
  simp only [pureD.pureL, Bool.and_eq_true] at h
  simp only [ze7, z0b k h.1, zao k ds h.2]
theorem z72 : ∀ (cs : List D), z1h false 1 cs.length cs = cs
 | [] => rfl
 | c :: cs => by
  simp only [List.length_cons, z1h, Bool.false_eq_true, if_false, List.getElem?_cons_zero, Option.getD_some, List.drop_succ_cons, List.drop_zero]
  rw [z72 cs]
theorem z8h {P : Program} {H : HM} {id n e : Nat} {cs : List D} (k : Nat) (hH : H id = some (.row e n cs)) (ha : z03 P e = false) (hs : z00 P e = 1) (hn : cs.length = n) (hp : pureD.pureL cs = true) :
  z2p P H (k + 2) (.osl id n) = some (.rsl false 1 cs) := by
 unfold z2p
 simp only [pureD, Bool.false_eq_true, if_false, hH, ha, hs, and_self, or_true, if_true]
 rw [zao k cs hp]
 simp only [Option.map_some]
 rw [<- hn, z72]

def z45 (l : List Int) : D := .rsl false 1 (l.map fun n => .int .i64 n)
def z2e (l : List ByteArray) : D := .rsl false 1 (l.map .str)
theorem z46 (l : List Int) : pureD (z45 l) = true := by simp only [z45, pureD]; exact z0a (fun _ => rfl) l
theorem z3n (l : List ByteArray) : pureD (z2e l) = true := by simp only [z2e, pureD]; exact z0a (fun _ => rfl) l
end Go.Proofs.YtfechgagcgbldaaDoor.Abs
namespace Go.Proofs.YtfechgagcgbldaaDoor.Abs
theorem z1e {P : Program} {H : HM} {nx k : Nat} {d r : D} (hp : pureD d = true) (h : Le d r) : Fin P (k + 1) r d H nx := ⟨d, z0b k hp, h⟩
theorem z05 {P : Program} {H : HM} {nx : Nat} {b c : Bool} (h : b = c) : Fin P 1 (.bool c) (.bool b) H nx := z1e rfl (by rw [h]; exact Le.refl _)
theorem z2v {P : Program} {H : HM} {nx : Nat} {b c : Int} (h : b = c) : Fin P 1 (.int .i64 c) (.int .i64 b) H nx := z1e rfl (by rw [h]; exact Le.refl _)
theorem ztg {P : Program} {H : HM} {nx k sz : Nat} {els : List D} (h : els = []) : Fin P (k + 1) (.rsl false sz els) .nil H nx := z1e rfl (by rw [h]; exact Le.nil sz)
theorem zmi {P : Program} {H : HM} {id n e nx : Nat} {cs els : List D} (k : Nat) (hH : H id = some (.row e n cs)) (ha : z03 P e = false) (hs : z00 P e = 1) (hn : cs.length = n) (hp : pureD.pureL cs = true) (he : cs = els) :
  Fin P (k + 2) (.rsl false 1 els) (.osl id n) H nx := ⟨_, z8h k hH ha hs hn hp, by rw [he]; exact Le.refl _⟩
theorem zdv {α β : Type} (f : α -> β) (x : α) : ∀ n, (List.replicate n [f x]).flatten = (List.replicate n x).map f
 | 0 => rfl
 | n + 1 => by simp [List.replicate_succ, zdv f x n]
end Go.Proofs.YtfechgagcgbldaaDoor.Abs
namespace Go.Proofs.YtfechgagcgbldaaDoor.Abs
open Go.RowKit
theorem z47 {P : Program} {H : HM} {id e : Nat} {c d : D} (k : Nat) (hH : H id = some (.box e [c])) (ha : z03 P e = false) (hc : z2p P H k c = some d) : z2p P H (k + 1) (.ptr id 0) = some (.rptr d) := by
 unfold z2p
 simp only [pureD, Bool.false_eq_true, if_false, hH, ha, false_or, List.length_cons, List.length_nil, and_self, if_true, ze7, hc, Option.map_some, List.getElem?_cons_zero, Option.getD_some]
theorem z0e {P : Program} {H : HM} {k : Nat} {d d' : D} {ds ds' : List D} (h : z2p P H k d = some d') (hs : ze7 (z2p P H k) ds = some ds') : ze7 (z2p P H k) (d :: ds) = some (d' :: ds') := by
 simp only [ze7, h, hs]
theorem z4s {P : Program} {H : HM} {k : Nat} : ze7 (z2p P H k) [] = some [] := rfl
end Go.Proofs.YtfechgagcgbldaaDoor.Abs
namespace Go.Proofs.YtfechgagcgbldaaDoor.Abs
open Go.RowKit
theorem zib {P : Program} {H : HM} {f : FuncId} {cap cap' : List D} (k : Nat) (hp : pureD.pureL cap = false) (hc : ze7 (z2p P H k) cap = some cap') : z2p P H (k + 1) (.fn f cap) = some (.fn f cap') := by
 unfold z2p
 simp only [pureD, hp, Bool.false_eq_true, if_false, hc, Option.map_some]
theorem z8i {P : Program} {H : HM} {nx k : Nat} {d r : D} (h : z2p P H k d = some r) : Fin P k r d H nx := ⟨r, h, Le.refl _⟩
end Go.Proofs.YtfechgagcgbldaaDoor.Abs
namespace Go.Proofs.YtfechgagcgbldaaDoor.Abs
open Go.RowKit
theorem z4j {α : Type} {f : α -> List D} {sz : Nat} (h : ∀ x, (f x).length = sz) : ∀ (l : List α), z1h true sz l.length (l.flatMap f) = l.map fun x => .agg (f x)
 | [] => rfl
 | x :: l => by
  simp only [List.length_cons, z1h, if_true, List.flatMap_cons, List.map_cons]
  rw [List.take_left' (h x), List.drop_left' (h x), z4j h l]
theorem z12 {α : Type} {f : α -> List D} (h : ∀ x, pureD.pureL (f x) = true) : ∀ (l : List α), pureD.pureL (l.flatMap f) = true
 | [] => rfl
 | x :: l => by
  have app : ∀ (a b : List D), pureD.pureL a = true -> pureD.pureL b = true -> pureD.pureL (a ++ b) = true := by
   intro a b
   induction a with
   | nil => intro _ h; exact h
   | cons d ds ih =>
    intro h1 h2
    simp only [pureD.pureL, Bool.and_eq_true, List.cons_append] at h1 ⊢
    exact ⟨h1.1, ih h1.2 h2⟩
  exact app _ _ (h x) (z12 h l)
theorem z1s {α : Type} {P : Program} {H : HM} {id e sz : Nat} {f : α -> List D} {l : List α} (k : Nat) (hH : H id = some (.row e l.length (l.flatMap f))) (ha : z03 P e = true) (hs : z00 P e = sz) (h : ∀ x, (f x).length = sz) (hp : ∀ x, pureD.pureL (f x) = true) :
  z2p P H (k + 2) (.osl id l.length) = some (.rsl false sz (l.map fun x => .agg (f x))) := by
 unfold z2p
 simp only [pureD, Bool.false_eq_true, if_false, hH, ha, true_or, and_self, if_true, hs]
 rw [zao k _ (z12 hp l)]
 simp only [Option.map_some, z4j h]
end Go.Proofs.YtfechgagcgbldaaDoor.Abs
namespace Go.Proofs.YtfechgagcgbldaaDoor.Abs
theorem zbz {H : HM} {i j : Nat} {o : Option HObj} (h : ¬ j = i) : z0u H i o j = H j := if_neg h
theorem updH_eq {H : HM} {i : Nat} {o : Option HObj} : z0u H i o i = o := if_pos rfl
end Go.Proofs.YtfechgagcgbldaaDoor.Abs
namespace Go.Proofs.YtfechgagcgbldaaDoor.Abs
open Go.RowKit
theorem PC.le {P : Program} {f : FuncId} {ds es : List D} {r : D} (h : PC P f es r) (hp : pureD.pureL ds = true) (hl : LeL ds es) : PC P f ds r :=
 ⟨hp, h.2.1, h.2.2.1, fun s w vs h1 h2 h3 h4 => h.2.2.2 s w vs h1 h2 h3 (z8v hl h4)⟩
end Go.Proofs.YtfechgagcgbldaaDoor.Abs
namespace Go.Proofs.YtfechgagcgbldaaDoor.Abs
open Go.RowKit Go.ChangeShapes

def z7o (W : World) : RS := { m := W.cell?, H := noH, nx := 0, κ := fun _ => .pointer none }
def zth (W : World) : Prop := ∀ g, rel (z7o W) (globD g) (.pointer (some ⟨g, 0, none⟩))

theorem zxn (P : Program) (W : World) (hg : zth W) : RH P (z7o W) W :=
 ⟨fun a v h => ⟨h, by rintro ⟨id, hid, _⟩; exact absurd hid (Nat.not_lt_zero _)⟩, fun id o ho => (by cases ho), fun i j hi => (hi rfl).elim, hg⟩
theorem zti {P : Program} {f : FuncId} {ds : List D} {v : Value} {d : D} (h : PC P f ds d) (V : ∀ s u, rel s d u -> u = v) {W : World} (hg : zth W) {vs : List Value} (hr : relAll (z7o W) ds vs) :
  Calls P f vs.toArray W fun e W' => e = .returned v /\ Below W.heap.size W W' := by
 refine (h.2.2.2 (z7o W) W vs rfl rfl (zxn P W hg) hr).mono fun e W' ⟨u, r', s', he, hrr, hstep, _, hrel⟩ => ?_
 subst hrr
 rw [V _ _ hrel] at he
 exact ⟨he, hstep.os, hstep.tape, hstep.output, hstep.size, fun k O => hstep.keep k O (by rintro ⟨id, hid, _⟩; exact absurd hid (Nat.not_lt_zero _))⟩
end Go.Proofs.YtfechgagcgbldaaDoor.Abs
namespace Go.Proofs.YtfechgagcgbldaaDoor.Abs
open Go.RowKit Go.ChangeShapes
end Go.Proofs.YtfechgagcgbldaaDoor.Abs
namespace Go.Proofs.YtfechgagcgbldaaDoor.Abs
open Go.RowKit
variable {P : Program} {own : List Nat} {Q : Exit -> St -> Prop} {st : St}

theorem zqd {c : Operand} {x y b : Code} (t : Bool) (ht : st.ev c = .bool t) (h1 : t = true -> awp P own (.seq x b) Q st) (h2 : t = false -> awp P own (.seq y b) Q st) : awp P own (.seq (.cond c x y) b) Q st :=
 ⟨t, ht, h1, h2⟩
theorem zqb {b : Code} (h : awp P own b Q st) : awp P own (.seq .skip b) Q st := ⟨st, SealTo.refl st, h⟩
theorem zqg {b : Code} (h : Q .ret st) : awp P own (.seq .ret b) Q st := h
theorem zqc {b : Code} {id : Nat} (h : Q (.exit id) st) : awp P own (.seq (.exit id) b) Q st := h
theorem zqa {id : Nat} {c b : Code} (h : awp P own c (znn id (zj9 (fun st => ∃ st', SealTo P st st' /\ awp P own b Q st') Q)) st) : awp P own (.seq (.block id c) b) Q st := h
theorem zqr {id : Nat} {l : List Oper} (h : ∀ K : St -> Prop, (∀ st, Q .normal st -> K st) -> z1p P own (l.map (·.dst)) l K st) : awp P own (.region id l.toArray false) Q st :=
 z1y (h _ fun _ h => h)
theorem zqq {id : Nat} {l : List Oper} (h0 : zhp own l.toArray = true) (h : ∀ K : St -> Prop, (∀ st, Q .normal st -> K st) -> z2o P own (l.map (·.dst)) l K st) : awp P own (.region id l.toArray true) Q st :=
 ze8 h0 (h _ fun _ h => h)
theorem z6x {c : Code} (I : Nat -> St -> Prop) (h0 : ∃ n, I n st) (h : ∀ n st', I n st' -> awp P own c (zlo I n Q) st') : awp P own (.loop c) Q st := ⟨I, h0, h⟩
def isRN : Exit -> Bool
 | .normal | .ret => true
 | _ => false
theorem zqu {e : Exit} {rs : List ResultVar} {K : D -> HM -> Nat -> Prop} {d : D} (h : resD P st rs = some d) (he : isRN e = true) (hF : K d st.H st.nx) : retQ P rs K e st := by
 cases e <;> first | exact ⟨d, h, hF⟩ | cases he
theorem zqv {Q' : Exit -> St -> Prop} {b : Code} (h : awp P own b Q st) : zj9 (fun st => ∃ st', SealTo P st st' /\ awp P own b Q st') Q' .normal st := ⟨st, SealTo.refl st, h⟩
theorem zk7 {Q' : Exit -> St -> Prop} {b : Code} (st' : St) (hs : SealTo P st st') (h : awp P own b Q st') : zj9 (fun st => ∃ st', SealTo P st st' /\ awp P own b Q st') Q' .normal st := ⟨st', hs, h⟩
theorem zqw {k : St -> Prop} {id : Nat} (h : Q (.exit id) st) : zj9 k Q (.exit id) st := h
theorem zqx {k : St -> Prop} (h : Q .ret st) : zj9 k Q .ret st := h
theorem zqy {id : Nat} (h : Q .normal st) : znn id Q .normal st := h
theorem zqz {id : Nat} (h : Q .normal st) : znn id Q (.exit id) st := by
 simp only [znn, if_true]; exact h
theorem zqzb {id : Nat} (h : Q .ret st) : znn id Q .ret st := h
theorem zqp {I : Nat -> St -> Prop} {n id : Nat} (h : Q (.exit id) st) : zlo I n Q (.exit id) st := h
theorem zqo {I : Nat -> St -> Prop} {n : Nat} (h : Q .ret st) : zlo I n Q .ret st := h
section
variable {f : List Oper -> (St -> Prop) -> St -> Prop} {rest : List Oper} {K : St -> Prop} {dst : Option Nat}
theorem zqf {b : Bool} {op : Op} {ty : TypeId} {pos : String} {aft : Array Edge} {g : Option (Nat × Bool)} (h1 : b = true -> f (⟨dst, op, ty, pos, aft, g⟩ :: rest) K st) (h2 : b = false -> f rest K (st.put dst (.tup []))) :
  zvh (some b) f ⟨dst, op, ty, pos, aft, g⟩ rest K st := by
 cases b with
 | true => exact h1 rfl
 | false => exact h2 rfl
end
attribute [go_sem] z45 z2e
theorem ztj {α : Type} {f : α -> D} {l : List α} {i : Int} (h0 : 0 <= i) (h : i.toNat < l.length) : zjj (l.map f) i = some (f l[i.toNat]) := by
 unfold zjj
 rw [if_pos ⟨h0, by simp; omega⟩]
 simp [h]
theorem zxo {α : Type} {c : Prop} [Decidable c] {x : α} (h : c) : (if c then some x else none) = some x := if_pos h
theorem ztk {α β : Type} (f : α -> β) (l : List α) (i : Nat) : (l.map f).take i = (l.take i).map f := (List.map_take).symm
theorem ztl {α β : Type} (f : α -> β) (l : List α) (i : Nat) : (l.map f).drop i = (l.drop i).map f := (List.map_drop).symm
theorem zq5 : maxLen = 9223372036854775807 := rfl
attribute [go_sem] ztk ztl zq5
theorem nbeq {a b : Nat} (h : ¬ a = b) : (a == b) = false := by simpa using h
theorem nb1 {a : Nat} {st : St} (h : ¬ a = st.nx) : (a == st.nx) = false := nbeq h
theorem nb2 {a : Nat} {st : St} (h : ¬ st.nx = a) : (st.nx == a) = false := nbeq h
theorem nb3 {a k : Nat} {st : St} (h : ¬ a = st.nx + k) : (a == st.nx + k) = false := nbeq h
theorem nb4 {a k : Nat} {st : St} (h : ¬ st.nx + k = a) : (st.nx + k == a) = false := nbeq h
theorem ztm {α : Type} {f : α -> D} {l : List α} {k : Nat} (h : k < l.length) : zjj (l.map f) (k : Int) = some (f l[k]) := z2u f l k h
theorem AC.split {f : FuncId} {pre post : List D} {sz : Nat} {els : List D} {H : HM} {nx : Nat} {K : D -> HM -> Nat -> Prop} (h0 : els = [] -> AC P f (pre ++ .nil :: post) H nx K) (h1 : AC P f (pre ++ .rsl true sz els :: post) H nx K) :
  AC P f (pre ++ .rsl false sz els :: post) H nx K := by
 refine ⟨h1.1, fun s w vs hH hnx hRH hr => ?_⟩
 have key : ∀ (pre : List D) (vs : List Value), relAll s (pre ++ .rsl false sz els :: post) vs -> (els = [] /\ relAll s (pre ++ .nil :: post) vs) \/ relAll s (pre ++ .rsl true sz els :: post) vs := by
  intro pre
  induction pre with
  | nil =>
   intro vs hr
   simp only [List.nil_append, relAll] at hr ⊢
   obtain ⟨v, r, h1, h2, h3⟩ := hr
   simp only [rel] at h2
   rcases h2 with ⟨_, h4, h5⟩ | h2
   ·exact .inl ⟨h4, v, r, h1, by simpa only [rel] using h5, h3⟩
   ·exact .inr ⟨v, r, h1, by simp only [rel]; exact .inr h2, h3⟩
  | cons d ds ih =>
   intro vs hr
   simp only [List.cons_append, relAll] at hr ⊢
   obtain ⟨v, r, h1, h2, h3⟩ := hr
   rcases ih r h3 with ⟨h4, h5⟩ | h4
   ·exact .inl ⟨h4, v, r, h1, h2, h5⟩
   ·exact .inr ⟨v, r, h1, h2, h4⟩
 rcases key pre vs hr with ⟨h2, h3⟩ | h2
 ·exact (h0 h2).2 s w vs hH hnx hRH h3
 ·exact h1.2 s w vs hH hnx hRH h2
theorem zk8 {P : Program} {H : HM} {ds ds' : List D} (k : Nat) (hp : pureD.pureL ds = false) (hc : ze7 (z2p P H k) ds = some ds') : z2p P H (k + 1) (.agg ds) = some (.agg ds') := by
 unfold z2p
 simp only [pureD, hp, Bool.false_eq_true, if_false, hc, Option.map_some]
theorem zew {cs : List D} {n : Nat} (h : n = cs.length) : z1h false 1 n cs = cs := by subst h; exact z72 cs
theorem z6b {α : Type} {f : α -> D} (h : ∀ x, z41 (f x) = some [f x]) : ∀ (l : List α), z1j 1 (l.map f) = some (l.map f)
 | [] => rfl
 | x :: l => by simp [z1j, h, z6b h l]
theorem ztn (l : List ByteArray) : z1j 1 (l.map D.str) = some (l.map D.str) := z6b (fun _ => rfl) l
theorem zto {k : IntKind} (l : List Int) : z1j 1 (l.map (D.int k)) = some (l.map (D.int k)) := z6b (fun _ => rfl) l
theorem zic (l : List ByteArray) : pureD.pureL (l.map D.str) = true := z0a (fun _ => rfl) l
theorem zxp {k : IntKind} (l : List Int) : pureD.pureL (l.map (D.int k)) = true := z0a (fun _ => rfl) l
theorem zq6 {α : Type} (f : α -> D) (l : List α) : z1h false 1 l.length (l.map f) = l.map f := zew (by simp)
attribute [go_sem] List.nil_append List.cons_append Bool.false_or Bool.or_true Bool.true_or Bool.or_false zq6
theorem zk9 (a b : List D) : pureD.pureL (a ++ b) = (pureD.pureL a && pureD.pureL b) := by
 induction a with
 | nil => rfl
 | cons d ds ih => simp only [List.cons_append, pureD.pureL, ih, Bool.and_assoc]
attribute [go_sem] zk9
theorem zmj {α : Type} (f : α -> D) (l : List α) (x : D) : z1h false 1 (l.length + 1) (l.map f ++ [x]) = l.map f ++ [x] := zew (by simp)
attribute [go_sem high] zmj
theorem ztp {k : IntKind} (l : List Nat) : z1j 1 (l.map fun n => D.int k (n : Nat)) = some (l.map fun n => D.int k (n : Nat)) := z6b (fun _ => rfl) l
theorem zxq {k : IntKind} (l : List Nat) : pureD.pureL (l.map fun n => D.int k (n : Nat)) = true := z0a (fun _ => rfl) l
attribute [go_sem] ztn zto zic zxp ztp zxq

def ztq (P : Program) (id : Nat) (e : TypeId) (k : Nat) (cs : List D) : D -> D
 | .osl j n => cond (j == id && n == k) (.rsl false (z00 P e) (z1h (z03 P e) (z00 P e) k cs)) (.osl j n)
 | d => d
def seal1 (P : Program) (id : Nat) (e : TypeId) (k : Nat) (cs : List D) : D -> D
 | .agg ds => .agg (ds.map (ztq P id e k cs))
 | d => ztq P id e k cs d
def sealO (P : Program) (id : Nat) (e : TypeId) (k : Nat) (cs : List D) : HObj -> HObj
 | .box t ds => .box t (ds.map (ztq P id e k cs))
 | .row t n ds => .row t n (ds.map (ztq P id e k cs))
 | o => o
def St.given (P : Program) (st : St) (id : Nat) (e : TypeId) (k : Nat) (cs : List D) : St :=
 {t := fun i => seal1 P id e k cs (st.t i), H := fun j => cond (j == id) none ((st.H j).map (sealO P id e k cs)), nx := st.nx }
@[go_sem] theorem t_seal (st : St) (id e k : Nat) (cs : List D) (i : Nat) : (st.given P id e k cs).t i = seal1 P id e k cs (st.t i) := rfl
@[go_sem] theorem H_seal (st : St) (id e k : Nat) (cs : List D) (j : Nat) : (st.given P id e k cs).H j = cond (j == id) none ((st.H j).map (sealO P id e k cs)) := rfl
@[go_sem] theorem nx_seal (st : St) (id e k : Nat) (cs : List D) : (st.given P id e k cs).nx = st.nx := rfl
attribute [go_sem] ztq seal1 sealO
attribute [go_sem] Bool.not_true Bool.not_false decide_true decide_false List.getElem?_toArray List.map_map ne_eq not_true_eq_false not_false_eq_true List.length_map Nat.zero_le Option.some.injEq List.length_cons List.length_nil beq_self_eq_true Bool.true_and Bool.and_true true_or or_true List.drop_zero List.set_cons_zero List.set_cons_succ List.take_succ_cons List.take_zero List.drop_succ_cons D.int.injEq Prod.mk.injEq Int.toNat_natCast Nat.mul_one Nat.zero_add Nat.add_zero Int.natCast_nonneg List.getElem?_map List.length_set List.length_append List.length_replicate List.length_take List.length_drop List.take_length Bool.false_and Bool.and_false
attribute [go_sem] ztm ztj z28 nb1 nb2 nb3 nb4 zxo resD allR valR
end Go.Proofs.YtfechgagcgbldaaDoor.Abs
namespace Go.Proofs.YtfechgagcgbldaaDoor.Abs
open Go.RowKit
variable {P : Program}

def z6t : HObj -> Bool
 | .box _ cs => pureD.pureL cs
 | .row _ _ cs => pureD.pureL cs
 | .map es => pureD.pureL (es.map (·.1)) && pureD.pureL (es.map (·.2))
 | .raw _ => true
def renD (g : Nat -> Nat) : D -> D
 | .osl j n => .osl (g j) n
 | .ptr j off => .ptr (g j) off
 | .mp j => .mp (g j)
 | .agg ds => .agg (renL ds)
 | .tup ds => .tup (renL ds)
 | d => d
where renL : List D -> List D
 | [] => []
 | d :: ds => renD g d :: renL ds
def okD (k : Nat) : D -> Bool
 | .osl j _ => decide (j < k)
 | .ptr j _ => decide (j < k)
 | .mp j => decide (j < k)
 | .agg ds => okL ds
 | .tup ds => okL ds
 | d => pureD d
where okL : List D -> Bool
 | [] => true
 | d :: ds => okD k d && okL ds
def zjk (H : HM) (nx : Nat) : List HObj -> HM
 | [] => H
 | o :: os => zjk (z0u H nx (some o)) (nx + 1) os
theorem zex : ∀ (os : List HObj) (H : HM) (nx i : Nat), zjk H nx os i = if nx <= i /\ i < nx + os.length then os[i - nx]? else H i
 | [], H, nx, i => by
  simp only [zjk, List.length_nil, Nat.add_zero]
  rw [if_neg (by omega)]
 | o :: os, H, nx, i => by
  simp only [zjk, zex os, List.length_cons, z0u]
  by_cases h : nx + 1 <= i /\ i < nx + 1 + os.length
  ·rw [if_pos h, if_pos (by omega)]
   have : i - nx = (i - (nx + 1)) + 1 := by omega
   rw [this, List.getElem?_cons_succ]
  ·rw [if_neg h]
   by_cases h2 : i = nx
   ·subst h2
    rw [if_pos rfl, if_pos (by omega), Nat.sub_self]; rfl
   ·rw [if_neg h2, if_neg (by omega)]

def OC (P : Program) (f : FuncId) (ds : List D) (objs : List HObj) (r : D) : Prop :=
 pureD.pureL ds = true /\ okD objs.length r = true /\ (∀ o ∈ objs, z6t o = true) /\
  ∀ H nx, AC P f ds H nx fun r' H' nx' => r' = renD (fun j => nx + j) r /\ H' = zjk H nx objs /\ nx' = nx + objs.length

noncomputable def z62 (s s3 : RS) (w w' : World) (k : Nat) (σ : Nat -> Nat) : RS :=
 {m := fun a => if a.block < w.heap.size then s.m a else @ite _ (∃ j, j < k /\ blockOf (s3.κ (σ j)) = some a.block) (Classical.propDecidable _) none (w'.cell? a)
  κ := fun i => if s.nx <= i /\ i < s.nx + k then s3.κ (σ (i - s.nx)) else s.κ i
  H := fun i => if s.nx <= i /\ i < s.nx + k then s3.H (σ (i - s.nx)) else s.H i
  nx := s.nx + k }

mutual
theorem zmk {s s' : RS} {k : Nat} {σ τ : Nat -> Nat} (hm : ∀ a v, s.m a = some v -> s'.m a = some v)
  (hnx : ∀ j, j < k -> τ j < s'.nx) (hH : ∀ j, j < k -> s'.H (τ j) = s.H (σ j) /\ s'.κ (τ j) = s.κ (σ j)) : ∀ (d : D) (v : Value), okD k d = true -> rel s (renD σ d) v -> rel s' (renD τ d) v
 | .osl j n, v, O, hr => by
  simp only [okD, decide_eq_true_eq] at O
  simp only [renD, rel] at hr ⊢
  obtain ⟨_, h2, h3⟩ := hr
  obtain ⟨e1, e2⟩ := hH j O
  exact ⟨hnx j O, h2, by rw [e1, e2]; exact h3⟩
 | .ptr j off, v, O, hr => by
  simp only [okD, decide_eq_true_eq] at O
  simp only [renD, rel] at hr ⊢
  obtain ⟨_, h2, h3⟩ := hr
  obtain ⟨e1, e2⟩ := hH j O
  exact ⟨hnx j O, h2, by rw [e1, e2]; exact h3⟩
 | .mp j, v, O, hr => by
  simp only [okD, decide_eq_true_eq] at O
  simp only [renD, rel] at hr ⊢
  obtain ⟨_, h2, h3⟩ := hr
  obtain ⟨e1, e2⟩ := hH j O
  exact ⟨hnx j O, h2, by rw [e1, e2]; exact h3⟩
 | .agg ds, v, O, hr => by
  simp only [okD] at O
  simp only [renD, rel] at hr ⊢
  obtain ⟨vs, h1, h2, h3⟩ := hr
  exact ⟨vs, h1, zc0 hm hnx hH ds vs O h2, h3⟩
 | .tup ds, v, O, hr => by
  simp only [okD] at O
  simp only [renD, rel] at hr ⊢
  obtain ⟨vs, h1, h2⟩ := hr
  exact ⟨vs, h1, zc0 hm hnx hH ds vs O h2⟩
 | .any, v, O, hr => by simp only [renD] at hr ⊢; exact z1k hm _ _ rfl hr
 | .int _ _, v, O, hr => by simp only [renD] at hr ⊢; exact z1k hm _ _ rfl hr
 | .bool _, v, O, hr => by simp only [renD] at hr ⊢; exact z1k hm _ _ rfl hr
 | .str _, v, O, hr => by simp only [renD] at hr ⊢; exact z1k hm _ _ rfl hr
 | .nil, v, O, hr => by simp only [renD] at hr ⊢; exact z1k hm _ _ rfl hr
 | .nptr, v, O, hr => by simp only [renD] at hr ⊢; exact z1k hm _ _ rfl hr
 | .nfun, v, O, hr => by simp only [renD] at hr ⊢; exact z1k hm _ _ rfl hr
 | .nmp, v, O, hr => by simp only [renD] at hr ⊢; exact z1k hm _ _ rfl hr
 | .e0, v, O, hr => by simp only [renD] at hr ⊢; exact z1k hm _ _ rfl hr
 | .rsl nn sz els, v, O, hr => by simp only [okD] at O; simp only [renD] at hr ⊢; exact z1k hm _ _ O hr
 | .rptr d, v, O, hr => by simp only [okD] at O; simp only [renD] at hr ⊢; exact z1k hm _ _ O hr
 | .fsl _ els, v, O, hr => by simp only [okD] at O; simp only [renD] at hr ⊢; exact z1k hm _ _ O hr
 | .fn f cap, v, O, hr => by simp only [okD] at O; simp only [renD] at hr ⊢; exact z1k hm _ _ O hr
 | .bfn f first, v, O, hr => by simp only [okD] at O; simp only [renD] at hr ⊢; exact z1k hm _ _ O hr
 | .eptr .., v, O, hr => by simp only [okD, pureD] at O; cases O
 | .it _, v, O, hr => by simp only [okD, pureD] at O; cases O
theorem zc0 {s s' : RS} {k : Nat} {σ τ : Nat -> Nat} (hm : ∀ a v, s.m a = some v -> s'.m a = some v)
  (hnx : ∀ j, j < k -> τ j < s'.nx) (hH : ∀ j, j < k -> s'.H (τ j) = s.H (σ j) /\ s'.κ (τ j) = s.κ (σ j)) : ∀ (ds : List D) (vs : List Value), okD.okL k ds = true -> relAll s (renD.renL σ ds) vs -> relAll s' (renD.renL τ ds) vs
 | [], vs, _, hr => by simpa [renD.renL, relAll] using hr
 | d :: ds, vs, O, hr => by
  simp only [okD.okL, Bool.and_eq_true] at O
  simp only [renD.renL, relAll] at hr ⊢
  obtain ⟨v, r, h1, h2, h3⟩ := hr
  exact ⟨v, r, h1, zmk hm hnx hH d v O.1 h2, zc0 hm hnx hH ds r O.2 h3⟩
end

theorem objOK.pure {s s' : RS} {w : World} {v : Value} {o : HObj} (hm : ∀ a v, s.m a = some v -> s'.m a = some v) (hp : z6t o = true) (h : objOK P s w v o) : objOK P s' w v o := by
 cases o with
 | box e cs =>
  obtain ⟨b, vs, h1, h2, h3, h4⟩ := h
  exact ⟨b, vs, h1, h2, z17 hm _ _ hp h3, h4⟩
 | row e n cs =>
  obtain ⟨vs, h1, h2, h3⟩ := h
  exact ⟨vs, h1, z17 hm _ _ hp h2, h3⟩
 | map es =>
  simp only [z6t, Bool.and_eq_true] at hp
  obtain ⟨r, ens, clock, h1, h2, h3, h4⟩ := h
  exact ⟨r, ens, clock, h1, h2, z17 hm _ _ hp.1 h3, z17 hm _ _ hp.2 h4.1, h4.2⟩
 | raw q => exact h

theorem zid {f : FuncId} {ds : List D} {objs : List HObj} {r : D} (hds : pureD.pureL ds = true) (hr : okD objs.length r = true) (ho : ∀ o ∈ objs, z6t o = true)
  (h : AC P f ds noH 0 fun d H' _ => ∃ σ : Nat -> Nat, (∀ i j, i < objs.length -> j < objs.length -> σ i = σ j -> i = j) /\ d = renD σ r /\ ∀ j, j < objs.length -> H' (σ j) = objs[j]?) : OC P f ds objs r := by
 refine ⟨hds, hr, ho, fun H nx => ⟨h.1, fun s w vs hH hnx hRH hrel => ?_⟩⟩
 subst hH; subst hnx
 let s2 : RS := { s with H := noH, nx := 0 }
 have hno : ∀ k, ¬ owned s2 k := by rintro k ⟨id, hid, _⟩; exact absurd hid (Nat.not_lt_zero _)
 have hRH2 : RH P s2 w := ⟨fun a v hmm => ⟨(hRH.mem a v hmm).1, hno _⟩, fun id o ho => (by cases ho), fun i j hi => (hi rfl).elim, fun g => z1k (s := s) (s' := s2) (fun a v hm => hm) _ _ (z4g g) (hRH.glob g)⟩
 have hr2 : relAll s2 ds vs := z17 (s := s) (s' := s2) (fun a v hm => hm) ds vs hds hrel
 refine (h.2 s2 w vs rfl rfl hRH2 hr2).mono fun e w' ⟨v, d, s3, he, ⟨σ, hinj, V, hobj⟩, hstep, hRH3, hres⟩ => ?_
 subst V
 have hold : ∀ k, k < w.heap.size -> w'.heap[k]? = w.heap[k]? := fun k O => hstep.keep k O (hno k)
 have hnew3 : ∀ k, owned s3 k -> w.heap.size <= k := fun k O => (hstep.own k O).elim (fun h => (hno k h).elim) id
 have hlive : ∀ j, j < objs.length -> s3.H (σ j) ≠ none := fun j hj => by rw [hobj j hj, List.getElem?_eq_getElem hj]; simp
 have hown3 : ∀ j b, j < objs.length -> blockOf (s3.κ (σ j)) = some b -> owned s3 b := fun j b hj hb => ⟨σ j, hRH3.fresh (hlive j hj), hlive j hj, hb⟩
 let s' := z62 s s3 w w' objs.length σ
 have hm3 : ∀ a u, s3.m a = some u -> s'.m a = some u := by
  intro a u hu
  show (z62 s s3 w w' objs.length σ).m a = some u
  simp only [z62]
  rcases hstep.new a u hu with h1 | h1 | h1
  ·have hlt := hRH.mem_lt (a := a) (v := u) h1
   rw [if_pos hlt]; exact h1
  ·rw [if_neg (by omega), if_neg]
   ·exact (hRH3.mem a u hu).1
   ·rintro ⟨j, hj, hb⟩
    exact (hRH3.mem a u hu).2 (hown3 j _ hj hb)
  ·exact (hno _ h1).elim
 have hm0 : ∀ a u, s.m a = some u -> s'.m a = some u := by
  intro a u hu
  show (z62 s s3 w w' objs.length σ).m a = some u
  simp only [z62]
  rw [if_pos (hRH.mem_lt hu)]; exact hu
 have hHnew : ∀ j, j < objs.length -> s'.H (s.nx + j) = s3.H (σ j) /\ s'.κ (s.nx + j) = s3.κ (σ j) := by
  intro j hj
  show (z62 s s3 w w' objs.length σ).H (s.nx + j) = _ /\ (z62 s s3 w w' objs.length σ).κ (s.nx + j) = _
  simp only [z62]
  rw [if_pos (by omega), if_pos (by omega), Nat.add_sub_cancel_left]
  exact ⟨rfl, rfl⟩
 have hHold : ∀ i, ¬ (s.nx <= i /\ i < s.nx + objs.length) -> s'.H i = s.H i /\ s'.κ i = s.κ i := by
  intro i hi
  show (z62 s s3 w w' objs.length σ).H i = _ /\ (z62 s s3 w w' objs.length σ).κ i = _
  simp only [z62]
  rw [if_neg hi, if_neg hi]
  exact ⟨rfl, rfl⟩
 have hHlow : ∀ i, i < s.nx -> s'.H i = s.H i /\ s'.κ i = s.κ i := fun i hi => hHold i (by omega)
 have hlate : Later s s' := ⟨by show s.nx <= s.nx + _; omega, hm0, fun id hid => by
  obtain ⟨e1, e2⟩ := hHlow id hid
  rw [e1, e2]; exact objLe.refl _ _⟩
 have hown : ∀ k, owned s' k -> owned s k \/ (w.heap.size <= k /\ ∃ j, j < objs.length /\ blockOf (s3.κ (σ j)) = some k) := by
  rintro k ⟨id, hid, hH, hb⟩
  by_cases hi : s.nx <= id /\ id < s.nx + objs.length
  ·obtain ⟨j, rfl⟩ : ∃ j, id = s.nx + j := ⟨id - s.nx, by omega⟩
   have hj : j < objs.length := by omega
   rw [(hHnew j hj).2] at hb
   exact .inr ⟨hnew3 k (hown3 j k hj hb), j, hj, hb⟩
  ·obtain ⟨e1, e2⟩ := hHold id hi
   rw [e1] at hH; rw [e2] at hb
   exact .inl ⟨id, hRH.fresh hH, hH, hb⟩
 have hfun : s'.H = zjk s.H s.nx objs := by
  funext i
  rw [zex]
  by_cases hi : s.nx <= i /\ i < s.nx + objs.length
  ·obtain ⟨j, rfl⟩ : ∃ j, i = s.nx + j := ⟨i - s.nx, by omega⟩
   have hj : j < objs.length := by omega
   rw [if_pos hi, (hHnew j hj).1, hobj j hj, Nat.add_sub_cancel_left]
  ·rw [if_neg hi, (hHold i hi).1]
 refine ⟨v, renD (fun j => s.nx + j) r, s', he, ⟨rfl, hfun, rfl⟩, ?_, ?_, zmk hm3 (fun j hj => by show s.nx + j < s.nx + _; omega) hHnew r v hr hres⟩
 ·refine ⟨hstep.os, hstep.tape, hstep.output, hstep.size, hlate.nx, hm0, fun a u hu => ?_, hlate.objs, fun k O _ => hold k O, fun k O => ?_⟩
  ·by_cases hlt : a.block < w.heap.size
   ·refine .inl ?_
    have hu' : (z62 s s3 w w' objs.length σ).m a = some u := hu
    simp only [z62] at hu'
    rw [if_pos hlt] at hu'; exact hu'
   ·exact .inr (.inl (by omega))
  ·rcases hown k O with h1 | ⟨h1, _⟩
   ·exact .inl h1
   ·exact .inr h1
 ·refine ⟨fun a u hu => ?_, fun id o hido => ?_, fun i j hi hj hij hbi => ?_, fun g => rel.later hlate _ _ (hRH.glob g)⟩
  ·have hu' : (z62 s s3 w w' objs.length σ).m a = some u := hu
   simp only [z62] at hu'
   split at hu'
   ·rename_i hlt
    obtain ⟨h1, h2⟩ := hRH.mem a u hu'
    refine ⟨by rw [z4w (hold _ hlt)]; exact h1, fun h3 => ?_⟩
    rcases hown _ h3 with h4 | ⟨h4, _⟩
    ·exact h2 h4
    ·omega
   ·rename_i hlt
    split at hu'
    ·cases hu'
    ·rename_i hex
     refine ⟨hu', fun h3 => ?_⟩
     rcases hown _ h3 with h4 | ⟨_, h4⟩
     ·exact hlt (hRH.owned_lt h4)
     ·exact hex h4
  ·by_cases hi : s.nx <= id /\ id < s.nx + objs.length
   ·obtain ⟨j, rfl⟩ : ∃ j, id = s.nx + j := ⟨id - s.nx, by omega⟩
    have hj : j < objs.length := by omega
    obtain ⟨e1, e2⟩ := hHnew j hj
    rw [e1, hobj j hj, List.getElem?_eq_getElem hj] at hido
    cases hido
    refine ⟨by show s.nx + j < s.nx + _; omega, ?_⟩
    rw [e2]
    exact objOK.pure hm3 (ho _ (List.getElem_mem hj)) (hRH3.obj (σ j) _ (by rw [hobj j hj, List.getElem?_eq_getElem hj])).2
   ·obtain ⟨e1, e2⟩ := hHold id hi
    rw [e1] at hido
    obtain ⟨h1, h2⟩ := hRH.obj id o hido
    refine ⟨by show id < s.nx + _; omega, ?_⟩
    rw [e2]
    exact h2.mono hlate fun b hb' => hold b (h2.lt hb')
  ·by_cases h1 : s.nx <= i /\ i < s.nx + objs.length
   ·obtain ⟨i', rfl⟩ : ∃ j, i = s.nx + j := ⟨i - s.nx, by omega⟩
    have hi' : i' < objs.length := by omega
    rw [(hHnew i' hi').2] at hbi ⊢
    cases hb : blockOf (s3.κ (σ i')) with
    | none => exact (hbi hb).elim
    | some b =>
     have F := hnew3 b (hown3 i' b hi' hb)
     by_cases h2 : s.nx <= j /\ j < s.nx + objs.length
     ·obtain ⟨j', rfl⟩ : ∃ j', j = s.nx + j' := ⟨j - s.nx, by omega⟩
      have hj' : j' < objs.length := by omega
      rw [(hHnew j' hj').2, <- hb]
      exact hRH3.apart (σ i') (σ j') (hlive i' hi') (hlive j' hj') (fun e => hij (by rw [hinj i' j' hi' hj' e])) (by rw [hb]; simp)
     ·obtain ⟨e1, e2⟩ := hHold j h2
      rw [e1] at hj; rw [e2]
      intro e
      have := hRH.owned_lt (k := b) ⟨j, hRH.fresh hj, hj, e.symm⟩
      omega
   ·obtain ⟨e1, e2⟩ := hHold i h1
    rw [e1] at hi; rw [e2] at hbi ⊢
    by_cases h2 : s.nx <= j /\ j < s.nx + objs.length
    ·obtain ⟨j', rfl⟩ : ∃ j', j = s.nx + j' := ⟨j - s.nx, by omega⟩
     have hj' : j' < objs.length := by omega
     rw [(hHnew j' hj').2]
     cases hb : blockOf (s.κ i) with
     | none => exact (hbi hb).elim
     | some b =>
      intro e
      have h3 := hnew3 b (hown3 j' b hj' e.symm)
      have := hRH.owned_lt (k := b) ⟨i, hRH.fresh hi, hi, hb⟩
      omega
    ·obtain ⟨e3, e4⟩ := hHold j h2
     rw [e3] at hj; rw [e4]
     exact hRH.apart i j hi hj hij hbi

section
variable {st : St} {dst : Option Nat} {n : FuncId} {cap args : List D} {g : List Oper -> (St -> Prop) -> St -> Prop} {rest : List Oper} {K : St -> Prop}
theorem OC.ac {f : FuncId} {ds : List D} {objs : List HObj} {r : D} (h : OC P f ds objs r) {H : HM} {nx : Nat} {K : D -> HM -> Nat -> Prop} (O : K (renD (fun j => nx + j) r) (zjk H nx objs) (nx + objs.length)) : AC P f ds H nx K :=
 (h.2.2.2 H nx).mono fun _ _ _ ⟨h1, h2, h3⟩ => by subst h1; subst h2; subst h3; exact O
theorem zdw {objs : List HObj} {r : D} (h : OC P n (args ++ cap) objs r) (O : g rest K ((st.withH (zjk st.H st.nx objs) (st.nx + objs.length)).put dst (renD (fun j => st.nx + j) r))) : zg5 P (.fn n cap) args g rest K st dst :=
 z3g (h.ac O)
end
theorem OC.pc {f : FuncId} {ds : List D} {objs : List HObj} {r r' : D} (k : Nat) (h : OC P f ds objs r) (hp : pureD r' = true) (hs : z2p P (zjk noH 0 objs) k (renD (fun j => 0 + j) r) = some r') : PC P f ds r' :=
 z3q k h.1 hp (h.ac ⟨_, hs, Le.refl _⟩)
attribute [go_sem] zjk renD renD.renL
end Go.Proofs.YtfechgagcgbldaaDoor.Abs
namespace Go.Proofs.YtfechgagcgbldaaDoor.Abs
open Go.RowKit
variable {P : Program}

def lowD (n : Nat) : D -> Bool
 | .osl j _ => decide (j < n)
 | .ptr j _ => decide (j < n)
 | .eptr j _ _ => decide (j < n)
 | .mp j => decide (j < n)
 | .it j => decide (j < n)
 | .agg ds => lowL ds
 | .tup ds => lowL ds
 | .rsl _ _ els => lowL els
 | .fsl _ els => lowL els
 | .rptr d => lowD n d
 | .fn _ cap => lowL cap
 | .bfn _ first => lowL first
 | _ => true
where lowL : List D -> Bool
 | [] => true
 | d :: ds => lowD n d && lowL ds
def lowO (n : Nat) : HObj -> Bool
 | .box _ cs => lowD.lowL n cs
 | .row _ _ cs => lowD.lowL n cs
 | .map es => lowD.lowL n (es.map (·.1)) && lowD.lowL n (es.map (·.2))
 | .raw _ => true
mutual
theorem z6c (n : Nat) : ∀ d, pureD d = true -> lowD n d = true
 | .agg ds, h => by simp only [pureD] at h; simp only [lowD]; exact z1t n ds h
 | .tup ds, h => by simp only [pureD] at h; simp only [lowD]; exact z1t n ds h
 | .rsl _ _ els, h => by simp only [pureD] at h; simp only [lowD]; exact z1t n els h
 | .fsl _ els, h => by simp only [pureD] at h; simp only [lowD]; exact z1t n els h
 | .rptr d, h => by simp only [pureD] at h; simp only [lowD]; exact z6c n d h
 | .fn _ cap, h => by simp only [pureD] at h; simp only [lowD]; exact z1t n cap h
 | .bfn _ first, h => by simp only [pureD] at h; simp only [lowD]; exact z1t n first h
 | .any, _ => rfl
 | .int _ _, _ => rfl
 | .bool _, _ => rfl
 | .str _, _ => rfl
 | .nil, _ => rfl
 | .nptr, _ => rfl
 | .nfun, _ => rfl
 | .nmp, _ => rfl
 | .e0, _ => rfl
 | .osl .., h => by cases h
 | .ptr .., h => by cases h
 | .eptr .., h => by cases h
 | .mp _, h => by cases h
 | .it _, h => by cases h
theorem z1t (n : Nat) : ∀ ds, pureD.pureL ds = true -> lowD.lowL n ds = true
 | [], _ => rfl
 | d :: ds, h => by
  simp only [pureD.pureL, Bool.and_eq_true] at h
  simp only [lowD.lowL, z6c n d h.1, z1t n ds h.2, Bool.and_self]
end
mutual
theorem zo4 {s : RS} : ∀ (d : D) (v : Value), rel s d v -> lowD s.nx d = true
 | .agg ds, v, h => by simp only [rel] at h; obtain ⟨vs, _, h2, _⟩ := h; simp only [lowD]; exact z48 ds vs h2
 | .tup ds, v, h => by simp only [rel] at h; obtain ⟨vs, _, h2⟩ := h; simp only [lowD]; exact z48 ds vs h2
 | .rsl _ _ els, v, h => by
  simp only [rel] at h
  simp only [lowD]
  rcases h with ⟨_, h, _⟩ | ⟨_, _, vs, _, _, _, h4, _⟩
  ·rw [h]; rfl
  ·exact z48 els vs h4
 | .fsl _ els, v, h => by
  simp only [rel] at h
  simp only [lowD]
  rcases h with ⟨h, _⟩ | ⟨_, vs, _, _, h4, _⟩
  ·rw [h]; rfl
  ·exact z48 els vs h4
 | .rptr d, v, h => by simp only [rel] at h; obtain ⟨_, u, _, h2, _⟩ := h; simp only [lowD]; exact zo4 d u h2
 | .fn _ cap, v, h => by simp only [rel] at h; obtain ⟨vs, _, h2⟩ := h; simp only [lowD]; exact z48 cap vs h2
 | .bfn _ first, v, h => by simp only [rel] at h; obtain ⟨vs, _, h2⟩ := h; simp only [lowD]; exact z48 first vs h2
 | .any, _, _ => rfl
 | .int _ _, _, _ => rfl
 | .bool _, _, _ => rfl
 | .str _, _, _ => rfl
 | .nil, _, _ => rfl
 | .nptr, _, _ => rfl
 | .nfun, _, _ => rfl
 | .nmp, _, _ => rfl
 | .e0, _, _ => rfl
 | .osl .., v, h => by simp only [rel] at h; simp only [lowD, decide_eq_true_iff]; exact h.1
 | .ptr .., v, h => by simp only [rel] at h; simp only [lowD, decide_eq_true_iff]; exact h.1
 | .eptr .., v, h => by simp only [rel] at h; simp only [lowD, decide_eq_true_iff]; exact h.1
 | .mp _, v, h => by simp only [rel] at h; simp only [lowD, decide_eq_true_iff]; exact h.1
 | .it _, v, h => by simp only [rel] at h; simp only [lowD, decide_eq_true_iff]; exact h.1
theorem z48 {s : RS} : ∀ (ds : List D) (vs : List Value), relAll s ds vs -> lowD.lowL s.nx ds = true
 | [], _, _ => rfl
 | d :: ds, vs, h => by
  simp only [relAll] at h
  obtain ⟨v, r, _, h1, h2⟩ := h
  simp only [lowD.lowL, zo4 d v h1, z48 ds r h2, Bool.and_self]
end
theorem zey {s : RS} {w : World} {v : Value} {o : HObj} (h : objOK P s w v o) : lowO s.nx o = true := by
 cases o with
 | box e cs => obtain ⟨_, vs, _, _, h, _⟩ := h; exact z48 cs vs h
 | row e n cs => obtain ⟨vs, _, h, _⟩ := h; exact z48 cs vs h
 | map es => obtain ⟨_, _, _, _, _, h1, h2, _⟩ := h; simp only [lowO, z48 _ _ h1, z48 _ _ h2, Bool.and_self]
 | raw o => rfl
mutual
theorem zez {s s' : RS} {n : Nat} (hm : ∀ a v, s.m a = some v -> s'.m a = some v) (hn : n <= s'.nx) (hH : ∀ id, id < n -> s'.H id = s.H id /\ s'.κ id = s.κ id) :
  ∀ (d : D) (v : Value), lowD n d = true -> rel s d v -> rel s' d v
 | .agg ds, v, hl, h => by
  simp only [lowD] at hl; simp only [rel] at h ⊢
  obtain ⟨vs, h1, h2, h3⟩ := h
  exact ⟨vs, h1, z2j hm hn hH ds vs hl h2, h3⟩
 | .tup ds, v, hl, h => by
  simp only [lowD] at hl; simp only [rel] at h ⊢
  obtain ⟨vs, h1, h2⟩ := h
  exact ⟨vs, h1, z2j hm hn hH ds vs hl h2⟩
 | .rsl nn sz els, v, hl, h => by
  simp only [lowD] at hl; simp only [rel] at h ⊢
  rcases h with h | ⟨a, cap, vs, h1, h2, h3, h4, h5⟩
  ·exact .inl h
  ·exact .inr ⟨a, cap, vs, h1, h2, h3, z2j hm hn hH els vs hl h4, fun i u hu => ⟨(h5 i u hu).1, (h5 i u hu).2.later hm⟩⟩
 | .fsl sz els, v, hl, h => by
  simp only [lowD] at hl; simp only [rel] at h ⊢
  rcases h with h | ⟨a, vs, h1, h3, h4, h5⟩
  ·exact .inl h
  exact .inr ⟨a, vs, h1, h3, z2j hm hn hH els vs hl h4, fun i u hu => ⟨(h5 i u hu).1, (h5 i u hu).2.later hm⟩⟩
 | .rptr d, v, hl, h => by
  simp only [lowD] at hl; simp only [rel] at h ⊢
  obtain ⟨a, u, h1, h2, h3⟩ := h
  exact ⟨a, u, h1, zez hm hn hH d u hl h2, h3.later hm⟩
 | .fn f cap, v, hl, h => by
  simp only [lowD] at hl; simp only [rel] at h ⊢
  obtain ⟨vs, h1, h2⟩ := h
  exact ⟨vs, h1, z2j hm hn hH cap vs hl h2⟩
 | .bfn f first, v, hl, h => by
  simp only [lowD] at hl; simp only [rel] at h ⊢
  obtain ⟨vs, h1, h2⟩ := h
  exact ⟨vs, h1, z2j hm hn hH first vs hl h2⟩
 | .any, _, _, _ => by simp [rel]
 | .int _ _, v, _, h => by simpa [rel] using h
 | .bool _, v, _, h => by simpa [rel] using h
 | .str _, v, _, h => by simpa [rel] using h
 | .nil, v, _, h => by simpa [rel] using h
 | .nptr, v, _, h => by simpa [rel] using h
 | .nfun, v, _, h => by simpa [rel] using h
 | .nmp, v, _, h => by simpa [rel] using h
 | .e0, v, _, h => by simpa [rel] using h
 | .osl j k, v, hl, h => by
  simp only [lowD, decide_eq_true_iff] at hl; simp only [rel] at h ⊢
  rw [(hH j hl).1, (hH j hl).2]; exact ⟨by omega, h.2⟩
 | .ptr j k, v, hl, h => by
  simp only [lowD, decide_eq_true_iff] at hl; simp only [rel] at h ⊢
  rw [(hH j hl).1, (hH j hl).2]; exact ⟨by omega, h.2⟩
 | .eptr j k o, v, hl, h => by
  simp only [lowD, decide_eq_true_iff] at hl; simp only [rel] at h ⊢
  rw [(hH j hl).1, (hH j hl).2]; exact ⟨by omega, h.2⟩
 | .mp j, v, hl, h => by
  simp only [lowD, decide_eq_true_iff] at hl; simp only [rel] at h ⊢
  rw [(hH j hl).1, (hH j hl).2]; exact ⟨by omega, h.2⟩
 | .it j, v, hl, h => by
  simp only [lowD, decide_eq_true_iff] at hl; simp only [rel] at h ⊢
  rw [(hH j hl).1, (hH j hl).2]; exact ⟨by omega, h.2⟩
theorem z2j {s s' : RS} {n : Nat} (hm : ∀ a v, s.m a = some v -> s'.m a = some v) (hn : n <= s'.nx) (hH : ∀ id, id < n -> s'.H id = s.H id /\ s'.κ id = s.κ id) :
  ∀ (ds : List D) (vs : List Value), lowD.lowL n ds = true -> relAll s ds vs -> relAll s' ds vs
 | [], vs, _, h => by simpa [relAll] using h
 | d :: ds, vs, hl, h => by
  simp only [lowD.lowL, Bool.and_eq_true] at hl
  simp only [relAll] at h ⊢
  obtain ⟨v, r, h1, h2, h3⟩ := h
  exact ⟨v, r, h1, zez hm hn hH d v hl.1 h2, z2j hm hn hH ds r hl.2 h3⟩
end
theorem zf0 {s s' : RS} {n : Nat} {w : World} {v : Value} {o : HObj} (hm : ∀ a v, s.m a = some v -> s'.m a = some v) (hn : n <= s'.nx) (hH : ∀ id, id < n -> s'.H id = s.H id /\ s'.κ id = s.κ id)
  (hl : lowO n o = true) (h : objOK P s w v o) : objOK P s' w v o := by
 cases o with
 | box e cs =>
  obtain ⟨b, vs, h1, h2, h3, h4⟩ := h
  exact ⟨b, vs, h1, h2, z2j hm hn hH _ _ hl h3, h4⟩
 | row e k cs =>
  obtain ⟨vs, h1, h2, h3⟩ := h
  exact ⟨vs, h1, z2j hm hn hH _ _ hl h2, h3⟩
 | map es =>
  simp only [lowO, Bool.and_eq_true] at hl
  obtain ⟨r, ens, c, h1, h2, h3, h4⟩ := h
  exact ⟨r, ens, c, h1, h2, z2j hm hn hH _ _ hl.1 h3, z2j hm hn hH _ _ hl.2 h4.1, h4.2⟩
 | raw o => exact h
def zsc (n : Nat) (H : HM) : HM := fun id => if id < n then H id else none
theorem z9z {f : FuncId} {ds : List D} {H : HM} {nx : Nat} {K : D -> HM -> Nat -> Prop} (h : AC P f ds H nx K)
  (O : ∀ r H' nx', K r H' nx' -> lowD nx r = true /\ ∀ id o, id < nx -> H' id = some o -> H id = some o \/ lowO nx o = true) :
  AC P f ds H nx fun r H2 nx2 => nx2 = nx /\ ∃ H' nx', K r H' nx' /\ H2 = zsc nx H' := by
 refine ⟨h.1, fun s w vs h1 h2 h3 h4 => (h.2 s w vs h1 h2 h3 h4).mono fun e w' ⟨v, r, s', he, hK, hstep, hRH, hr⟩ => ?_⟩
 subst h1; subst h2
 obtain ⟨hl, hlo⟩ := O _ _ _ hK
 let s2 : RS := { s' with H := zsc s.nx s'.H, nx := s.nx }
 have hH : ∀ id, id < s.nx -> s2.H id = s'.H id /\ s2.κ id = s'.κ id := fun id hid => ⟨if_pos hid, rfl⟩
 have hcut : ∀ (d : D) (v : Value), lowD s.nx d = true -> rel s' d v -> rel s2 d v := zez (s := s') (s' := s2) (fun _ _ h => h) (Nat.le_refl _) hH
 have hown : ∀ k, owned s2 k -> owned s' k := fun k ⟨id, hid, h5, h6⟩ => by
  rw [(hH id hid).1] at h5
  exact ⟨id, Nat.lt_of_lt_of_le hid hstep.nx, h5, h6⟩
 refine ⟨v, r, s2, he, ⟨rfl, s'.H, s'.nx, hK, rfl⟩, ?_, ?_, hcut r v hl hr⟩
 ·exact ⟨hstep.os, hstep.tape, hstep.output, hstep.size, Nat.le_refl _, hstep.mem, hstep.new, fun id hid => by rw [(hH id hid).1]; exact hstep.objs id hid, hstep.keep, fun k hk' => hstep.own k (hown k hk')⟩
 ·refine ⟨fun a u hm => ⟨(hRH.mem a u hm).1, fun ho => (hRH.mem a u hm).2 (hown _ ho)⟩, fun id o ho => ?_, fun i j hi hj hij hb => ?_, fun g => ?_⟩
  ·have hid : id < s.nx := by
    rcases Nat.lt_or_ge id s.nx with h9 | h9
    ·exact h9
    ·have : s2.H id = none := if_neg (by omega)
     rw [this] at ho; cases ho
   rw [(hH id hid).1] at ho
   refine ⟨hid, zf0 (s := s') (s' := s2) (n := s.nx) (fun _ _ h => h) (Nat.le_refl _) hH ?_ (hRH.obj id o ho).2⟩
   rcases hlo id o hid ho with h9 | h9
   ·exact zey (s := s) (h3.obj id o h9).2
   ·exact h9
  ·have lt : ∀ i, s2.H i ≠ none -> i < s.nx /\ s'.H i ≠ none := fun i hi => by
    rcases Nat.lt_or_ge i s.nx with h9 | h9
    ·exact ⟨h9, by rw [<- (hH i h9).1]; exact hi⟩
    ·exact (hi (if_neg (by omega))).elim
   exact hRH.apart i j (lt i hi).2 (lt j hj).2 hij hb
  ·exact hcut _ _ (z6c _ _ (z4g g)) (hRH.glob g)

def Eff {σ : Type} (P : Program) (f : FuncId) (ds : List D) (lo : Nat) (I : σ -> HM -> Prop) (s s' : σ) (r : D) : Prop :=
 ∀ H nx, lo <= nx -> I s H -> AC P f ds H nx fun r' H' nx' => r' = r /\ nx' = nx /\ I s' H' /\ ∀ id, lo <= id -> H' id = H id
structure Low {σ : Type} (lo : Nat) (I : σ -> HM -> Prop) : Prop where
 loc : ∀ s H H', (∀ id, id < lo -> H' id = H id) -> I s H -> I s H'
 low : ∀ s H, I s H -> ∀ id o, id < lo -> H id = some o -> lowO lo o = true
mutual
theorem zf1 {m n : Nat} (h : m <= n) : ∀ d, lowD m d = true -> lowD n d = true
 | .agg ds, hl => by simp only [lowD] at hl ⊢; exact z38 h ds hl
 | .tup ds, hl => by simp only [lowD] at hl ⊢; exact z38 h ds hl
 | .rsl _ _ els, hl => by simp only [lowD] at hl ⊢; exact z38 h els hl
 | .fsl _ els, hl => by simp only [lowD] at hl ⊢; exact z38 h els hl
 | .rptr d, hl => by simp only [lowD] at hl ⊢; exact zf1 h d hl
 | .fn _ cap, hl => by simp only [lowD] at hl ⊢; exact z38 h cap hl
 | .bfn _ first, hl => by simp only [lowD] at hl ⊢; exact z38 h first hl
 | .any, _ => rfl
 | .int _ _, _ => rfl
 | .bool _, _ => rfl
 | .str _, _ => rfl
 | .nil, _ => rfl
 | .nptr, _ => rfl
 | .nfun, _ => rfl
 | .nmp, _ => rfl
 | .e0, _ => rfl
 | .osl .., hl => by simp only [lowD, decide_eq_true_iff] at hl ⊢; omega
 | .ptr .., hl => by simp only [lowD, decide_eq_true_iff] at hl ⊢; omega
 | .eptr .., hl => by simp only [lowD, decide_eq_true_iff] at hl ⊢; omega
 | .mp _, hl => by simp only [lowD, decide_eq_true_iff] at hl ⊢; omega
 | .it _, hl => by simp only [lowD, decide_eq_true_iff] at hl ⊢; omega
theorem z38 {m n : Nat} (h : m <= n) : ∀ ds, lowD.lowL m ds = true -> lowD.lowL n ds = true
 | [], _ => rfl
 | d :: ds, hl => by
  simp only [lowD.lowL, Bool.and_eq_true] at hl ⊢
  exact ⟨zf1 h d hl.1, z38 h ds hl.2⟩
end
theorem zka {m n : Nat} (h : m <= n) {o : HObj} (hl : lowO m o = true) : lowO n o = true := by
 cases o with
 | box e cs => exact z38 h cs hl
 | row e k cs => exact z38 h cs hl
 | map es => simp only [lowO, Bool.and_eq_true] at hl ⊢; exact ⟨z38 h _ hl.1, z38 h _ hl.2⟩
 | raw o => rfl
theorem zf2 {σ : Type} {f : FuncId} {ds : List D} {lo : Nat} {I : σ -> HM -> Prop} {s s' : σ} {r : D} (hI : Low lo I) (hr : pureD r = true)
  (h : ∀ H nx, lo <= nx -> I s H -> AC P f ds H nx fun r' H' _ => r' = r /\ I s' H' /\ ∀ id, lo <= id -> id < nx -> H' id = H id) : Eff P f ds lo I s s' r := by
 intro H nx hlo hs
 have h1 := z9z (h H nx hlo hs) (fun r' H' nx' ⟨hr', hi, hs'⟩ => by
  subst hr'
  refine ⟨z6c _ _ hr, fun id o hid ho => ?_⟩
  rcases Nat.lt_or_ge id lo with h9 | h9
  ·exact .inr (zka hlo (hI.low s' H' hi id o h9 ho))
  ·exact .inl (by rw [<- hs' id h9 hid]; exact ho))
 refine ⟨h1.1, fun s w vs e1 e2 e3 e4 => (h1.2 s w vs e1 e2 e3 e4).mono fun e w' ⟨v, r1, s1, he, ⟨hnx, H', nx', ⟨hr', hi, hs'⟩, hcut⟩, hstep, hRH, hrel⟩ => ⟨v, r1, s1, he, ⟨hr', hnx, ?_, fun id hid => ?_⟩, hstep, hRH, hrel⟩⟩
 ·refine hI.loc _ H' _ (fun id hid => ?_) hi
  rw [hcut]; exact if_pos (by omega)
 ·rw [hcut]
  unfold zsc
  split
  ·rename_i hlt; exact hs' id hid hlt
  ·rename_i hlt
   cases hH : H id with
   | none => rfl
   | some o =>
    have := (e3.obj id o (by rw [e1]; exact hH)).1
    omega
theorem PC.eff {f : FuncId} {ds : List D} {r : D} (h : PC P f ds r) {lo : Nat} {σ : Type} {I : σ -> HM -> Prop} (s : σ) : Eff P f ds lo I s s r := fun H nx _ hs =>
 (h.rc H nx).mono fun _ _ _ ⟨h1, h2, h3⟩ => ⟨h1, h3, by rw [h2]; exact hs, fun id _ => by rw [h2]⟩
theorem zap {σ : Type} {lo : Nat} {I : σ -> HM -> Prop} {s s' : σ} {r : D} {n : FuncId} {args cap : List D} {g : List Oper -> (St -> Prop) -> St -> Prop} {rest : List Oper} {K : St -> Prop} {st : St} {dst : Option Nat}
  (h : Eff P n (args ++ cap) lo I s s' r) (hlo : lo <= st.nx) (hs : I s st.H)
  (O : ∀ H', I s' H' -> (∀ id, lo <= id -> H' id = st.H id) -> g rest K ((st.withH H' st.nx).put dst r)) : zg5 P (.fn n cap) args g rest K st dst :=
 z3g ((h st.H st.nx hlo hs).mono fun r' H' nx' ⟨h1, h2, h3, h4⟩ => by subst h1; subst h2; exact O H' h3 h4)
theorem zkb {st : St} {b : Nat} {e : TypeId} (e' : TypeId) (hb : st.H b = some (.box e [.nil])) :
  SealTo P st { st with H := z0u (z0u st.H st.nx (some (.row e' 0 []))) b (some (.box e [.osl st.nx 0])), nx := st.nx + 1 } := by
 intro N s a w hf
 have hHb : s.H b = some (.box e [.nil]) := by rw [hf.H]; exact hb
 have hne : b ≠ s.nx := by have := (hf.heap.obj b _ hHb).1; omega
 obtain ⟨g1, g2⟩ := z57 hf.heap (Grew.refl w) (.row e' 0 []) (.slice none 0 0) (fun b hb => by cases hb) ⟨[], ⟨by simp, .inl ⟨rfl, rfl⟩⟩, z0f, by intro v hv; cases hv⟩
 have hb2 : (s.add (.slice none 0 0) (.row e' 0 [])).H b = some (.box e [.nil]) := by simp [RS.add, z0u, hne, hHb]
 obtain ⟨_, q2⟩ := g2.obj b _ hb2
 obtain ⟨g3, g4⟩ := z4i (w' := w) g2 b _ (.box e [.osl s.nx 0]) ((s.add (.slice none 0 0) (.row e' 0 [])).κ b) hb2 rfl rfl rfl (Nat.le_refl _) (fun _ _ _ => rfl) (.inr ⟨_, rfl, rfl⟩) (fun b hb => .inl hb) (fun hl => by
  obtain ⟨b', vs, u1, u2, u3, u4⟩ := q2
  refine ⟨b', vs, u1, u2, ?_, u4⟩
  simp only [relAll, rel] at u3
  obtain ⟨v, r, rfl, rfl, rfl⟩ := u3
  refine z08 ?_ z0f
  simp only [rel]
  refine ⟨by simp [RS.set, RS.add], ⟨_, _, rfl⟩, fun e2 k cs hH => ⟨Nat.zero_le _, fun _ => ?_⟩⟩
  simp only [RS.set, RS.add]
  rw [if_neg (fun h => hne h.symm)]
  simp)
 refine ⟨_, ⟨?_, ?_, hf.size, hf.defers, fun i => rel.later (g1.trans g3).later _ _ (hf.tmps i), g4⟩, g1.trans g3⟩
 ·simp only [RS.set, RS.add, hf.H, hf.nx]
 ·simp only [RS.set, RS.add, hf.nx]
theorem z6d {id : Nat} {l : List Oper} {b : Code} {own : List Nat} {Q : Exit -> St -> Prop} {st : St} (h : ∀ K : St -> Prop, (∀ st st', SealTo P st st' -> awp P own b Q st' -> K st) -> z1p P own (l.map (·.dst)) l K st) : awp P own (.seq (.region id l.toArray false) b) Q st :=
 ⟨fun h => (by cases h), fun _ => h _ fun _ st' hs hb => ⟨st', hs, hb⟩⟩
theorem zo5 {σ : Type} {lo : Nat} (objs : σ -> List HObj) (hl : ∀ s, (objs s).length = lo) (ho : ∀ s, ∀ o ∈ objs s, lowO lo o = true) : Low lo fun s H => ∀ j, j < lo -> H j = (objs s)[j]? :=
 ⟨fun s H H' h hs j hj => (h j hj).trans (hs j hj), fun s H hs id o hid hH => by
  rw [hs id hid] at hH
  exact ho s o (List.mem_of_getElem? hH)⟩
end Go.Proofs.YtfechgagcgbldaaDoor.Abs
namespace Go.Proofs.YtfechgagcgbldaaDoor.Abs
open Go.RowKit
variable {P : Program}
theorem zo6 {s : RS} {w : World} (hRH : RH P s w) {H' : HM} (O : ∀ id, id < s.nx -> H' id = s.H id) : zsc s.nx H' = s.H := by
 funext id
 unfold zsc
 split
 ·rename_i hlt; exact O id hlt
 ·rename_i hlt
  cases hH : s.H id with
  | none => rfl
  | some o => have := (hRH.obj id o hH).1; omega
theorem RC_keep {f : FuncId} {ds : List D} {H : HM} {nx : Nat} {r : D} (hr : pureD r = true)
  (h : AC P f ds H nx fun r' H' _ => r' = r /\ ∀ id, id < nx -> H' id = H id) : RC P f ds H nx r := by
 have h1 := z9z h (fun r' H' nx' ⟨hr', O⟩ => by
  subst hr'
  exact ⟨z6c _ _ hr, fun id o hid ho => .inl (by rw [<- O id hid]; exact ho)⟩)
 refine ⟨h1.1, fun s w vs e1 e2 e3 e4 => (h1.2 s w vs e1 e2 e3 e4).mono fun e w' ⟨v, r1, s1, he, ⟨hnx, H', nx', ⟨hr', O⟩, hcut⟩, hstep, hRH, hrel⟩ => ⟨v, r1, s1, he, ⟨hr', ?_, hnx⟩, hstep, hRH, hrel⟩⟩
 subst e1; subst e2
 rw [hcut]; exact zo6 e3 O
theorem AC_upd {f : FuncId} {ds : List D} {H : HM} {nx i : Nat} {r : D} {o' : HObj} (hr : pureD r = true) (ho : lowO nx o' = true) (hi : i < nx)
  (h : AC P f ds H nx fun r' H' _ => r' = r /\ H' i = some o' /\ ∀ id, id < nx -> id ≠ i -> H' id = H id) : AC P f ds H nx fun r' H' nx' => r' = r /\ H' = z0u H i (some o') /\ nx' = nx := by
 have h1 := z9z h (fun r' H' nx' ⟨hr', hu, O⟩ => by
  subst hr'
  refine ⟨z6c _ _ hr, fun id o hid ho2 => ?_⟩
  by_cases e : id = i
  ·subst e; rw [hu] at ho2; cases ho2; exact .inr ho
  ·exact .inl (by rw [<- O id hid e]; exact ho2))
 refine ⟨h1.1, fun s w vs e1 e2 e3 e4 => (h1.2 s w vs e1 e2 e3 e4).mono fun e w' ⟨v, r1, s1, he, ⟨hnx, H', nx', ⟨hr', hu, O⟩, hcut⟩, hstep, hRH, hrel⟩ => ⟨v, r1, s1, he, ⟨hr', ?_, hnx⟩, hstep, hRH, hrel⟩⟩
 subst e1; subst e2
 rw [hcut]
 funext id
 unfold zsc z0u
 by_cases e : id = i
 ·subst e; rw [if_pos hi, if_pos rfl]; exact hu
 ·rw [if_neg e]
  split
  ·rename_i hlt; exact O id hlt e
  ·rename_i hlt
   cases hH : s.H id with
   | none => rfl
   | some o => have := (e3.obj id o hH).1; omega
theorem z0d {α : Type} {i j : Nat} {a b : α} (h : ¬ i = j) : (bif i == j then a else b) = b := by
 rw [show (i == j) = false from by simpa using h]; rfl
def zie (s3 : RS) (n k : Nat) (σ : Nat -> Nat) : RS :=
 {m := s3.m
  κ := fun i => if n <= i /\ i < n + k then s3.κ (σ (i - n)) else s3.κ i
  H := fun i => if n <= i /\ i < n + k then s3.H (σ (i - n)) else if i < n then s3.H i else none
  nx := n + k }
theorem ztr {f : FuncId} {ds : List D} {H : HM} {nx : Nat} {objs : List HObj} {r : D} (hr : okD objs.length r = true) (ho : ∀ o ∈ objs, z6t o = true)
  (h : AC P f ds H nx fun d H' _ => (∀ id, id < nx -> H' id = H id) /\ ∃ σ : Nat -> Nat, (∀ i j, i < objs.length -> j < objs.length -> σ i = σ j -> i = j) /\ (∀ j, j < objs.length -> nx <= σ j) /\ d = renD σ r /\ ∀ j, j < objs.length -> H' (σ j) = objs[j]?) :
  AC P f ds H nx fun r' H' nx' => r' = renD (fun j => nx + j) r /\ H' = zjk H nx objs /\ nx' = nx + objs.length := by
 refine ⟨h.1, fun s w vs hH hnx hRH hrel => ?_⟩
 subst hH; subst hnx
 refine (h.2 s w vs rfl rfl hRH hrel).mono fun e w' ⟨v, d, s3, he, ⟨hkeep, σ, hinj, hge, V, hobj⟩, hstep, hRH3, hres⟩ => ?_
 subst V
 let s' := zie s3 s.nx objs.length σ
 have hHnew : ∀ j, j < objs.length -> s'.H (s.nx + j) = s3.H (σ j) /\ s'.κ (s.nx + j) = s3.κ (σ j) := by
  intro j hj
  show (zie s3 s.nx objs.length σ).H (s.nx + j) = _ /\ (zie s3 s.nx objs.length σ).κ (s.nx + j) = _
  simp only [zie]
  rw [if_pos (by omega), if_pos (by omega), Nat.add_sub_cancel_left]
  exact ⟨rfl, rfl⟩
 have hHlow : ∀ i, i < s.nx -> s'.H i = s3.H i /\ s'.κ i = s3.κ i := by
  intro i hi
  have h1 : ¬ (s.nx <= i /\ i < s.nx + objs.length) := by omega
  show (zie s3 s.nx objs.length σ).H i = _ /\ (zie s3 s.nx objs.length σ).κ i = _
  simp only [zie, if_neg h1, if_pos hi]
  exact ⟨trivial, trivial⟩
 have hHbig : ∀ i, s.nx + objs.length <= i -> s'.H i = none := by
  intro i hi
  show (zie s3 s.nx objs.length σ).H i = _
  simp only [zie]
  rw [if_neg (by omega), if_neg (by omega)]
 -- an object of s' is one of s3
 obtain ⟨τ, hτ⟩ : ∃ τ : Nat -> Nat, ∀ i, s'.H i ≠ none -> s'.H i = s3.H (τ i) /\ s'.κ i = s3.κ (τ i) /\ (i < s.nx /\ τ i = i \/ ∃ j, j < objs.length /\ i = s.nx + j /\ τ i = σ j) := by
  refine ⟨fun i => if i < s.nx then i else σ (i - s.nx), fun i hi => ?_⟩
  by_cases h1 : i < s.nx
  ·simp only [if_pos h1]
   exact ⟨(hHlow i h1).1, (hHlow i h1).2, .inl ⟨h1, trivial⟩⟩
  ·have h2 : i < s.nx + objs.length := by
    rcases Nat.lt_or_ge i (s.nx + objs.length) with h9 | h9
    ·exact h9
    ·exact (hi (hHbig i h9)).elim
   obtain ⟨j, rfl⟩ : ∃ j, i = s.nx + j := ⟨i - s.nx, by omega⟩
   simp only [if_neg h1, Nat.add_sub_cancel_left]
   exact ⟨(hHnew j (by omega)).1, (hHnew j (by omega)).2, .inr ⟨j, by omega, rfl, rfl⟩⟩
 have hown : ∀ k, owned s' k -> owned s3 k := by
  rintro k ⟨id, hid, hH, hb⟩
  obtain ⟨e1, e2, _⟩ := hτ id hH
  rw [e1] at hH; rw [e2] at hb
  exact ⟨τ id, hRH3.fresh hH, hH, hb⟩
 have hn : s.nx <= s'.nx := by show s.nx <= s.nx + _; omega
 have hfun : s'.H = zjk s.H s.nx objs := by
  funext i
  rw [zex]
  by_cases hi : s.nx <= i /\ i < s.nx + objs.length
  ·obtain ⟨j, rfl⟩ : ∃ j, i = s.nx + j := ⟨i - s.nx, by omega⟩
   have hj : j < objs.length := by omega
   rw [if_pos hi, (hHnew j hj).1, hobj j hj, Nat.add_sub_cancel_left]
  ·rw [if_neg hi]
   by_cases h1 : i < s.nx
   ·rw [(hHlow i h1).1, hkeep i h1]
   ·rw [hHbig i (by omega)]
    cases hH : s.H i with
    | none => rfl
    | some o => have := (hRH.obj i o hH).1; omega
 refine ⟨v, renD (fun j => s.nx + j) r, s', he, ⟨rfl, hfun, rfl⟩, ?_, ?_, zmk (s := s3) (s' := s') (fun _ _ h => h) (fun j hj => by show s.nx + j < s.nx + _; omega) hHnew r v hr hres⟩
 ·exact ⟨hstep.os, hstep.tape, hstep.output, hstep.size, hn, hstep.mem, hstep.new, fun id hid => by rw [(hHlow id hid).1, (hHlow id hid).2]; exact hstep.objs id hid, hstep.keep, fun k O => hstep.own k (hown k O)⟩
 ·refine ⟨fun a u hm => ⟨(hRH3.mem a u hm).1, fun ho => (hRH3.mem a u hm).2 (hown _ ho)⟩, fun id o hido => ?_, fun i j hi hj hij hb => ?_, fun g => zez (s := s3) (s' := s') (n := s.nx) (fun _ _ h => h) hn hHlow _ _ (z6c _ _ (z4g g)) (hRH3.glob g)⟩
  ·obtain ⟨e1, e2, hc⟩ := hτ id (by rw [hido]; simp)
   rw [e1] at hido
   rw [e2]
   obtain ⟨g1, g2⟩ := hRH3.obj _ o hido
   rcases hc with ⟨h1, h2⟩ | ⟨j, hj, h1, h2⟩
   ·rw [h2] at hido g2 ⊢
    refine ⟨by omega, zf0 (s := s3) (s' := s') (n := s.nx) (fun _ _ h => h) hn hHlow ?_ g2⟩
    rw [hkeep id h1] at hido
    exact zey (s := s) (hRH.obj id o hido).2
   ·refine ⟨by show id < s.nx + _; omega, objOK.pure (s := s3) (s' := s') (fun _ _ h => h) (ho o ?_) g2⟩
    rw [h2, hobj j hj] at hido
    exact List.mem_of_getElem? hido
  ·obtain ⟨a1, a2, a3⟩ := hτ i hi
   obtain ⟨b1, b2, b3⟩ := hτ j hj
   rw [a1] at hi; rw [b1] at hj; rw [a2] at hb ⊢; rw [b2]
   refine hRH3.apart _ _ hi hj (fun e => hij ?_) hb
   rcases a3 with ⟨h1, h2⟩ | ⟨k, O, h1, h2⟩ <;> rcases b3 with ⟨h3, h4⟩ | ⟨l, hl, h3, h4⟩
   ·rw [h2, h4] at e; exact e
   ·have := hge l hl; omega
   ·have := hge k O; omega
   ·have := hinj k l O hl (by rw [<- h2, <- h4]; exact e); omega
theorem z06 : (∀ (p : Prop) [Decidable p], (decide p = true) = p) /\ (∀ (p : Prop) [Decidable p], (decide p = false) = ¬p) /\ (∀ p : Prop, (¬¬p) ↔ p) /\ (∀ (α : Type) [BEq α] [LawfulBEq α] (a b : α), (a == b) = true ↔ a = b) /\ (∀ (α : Type) [BEq α] [LawfulBEq α] (a b : α), (a == b) = false ↔ a ≠ b) /\ (∀ (α : Type) [BEq α] [LawfulBEq α] (a b : α), (a != b) = true ↔ a ≠ b) /\ (∀ (α : Type) (a b : α), (a ≠ b) = ¬(a = b)) /\ (∀ b : Bool, ((!b) = true) = (b = false)) /\ (∀ b : Bool, ((!b) = false) = (b = true)) /\ (∀ a b : Bool, ((a && b) = true) = (a = true /\ b = true)) /\ (∀ a b : Bool, ((a || b) = true) = (a = true \/ b = true)) /\ (∀ a b : Bool, ((a && b) = false) = (a = true -> b = false)) /\ (∀ a b : Bool, ((a || b) = false) = (a = false /\ b = false)) /\ (∀ b : Bool, (¬(b = true)) = (b = false)) /\ (∀ b : Bool, (¬(b = false)) = (b = true)) :=
 ⟨fun p _ => decide_eq_true_eq, fun p _ => by simp, fun p => Classical.not_not, fun α _ _ a b => beq_iff_eq, fun α _ _ a b => beq_eq_false_iff_ne, fun α _ _ a b => bne_iff_ne, fun α a b => rfl, fun b => by cases b <;> simp, fun b => by cases b <;> simp, fun a b => by cases a <;> cases b <;> simp, fun a b => by cases a <;> cases b <;> simp, fun a b => by cases a <;> cases b <;> simp, fun a b => by cases a <;> cases b <;> simp, fun b => by cases b <;> simp, fun b => by cases b <;> simp⟩
/-- A step of a walk that needs nothing. -/
class Nx (A : Prop) (B : outParam Prop) : Prop where
  h : B -> A
theorem nxt {A B : Prop} [i : Nx A B] (h : B) : A := i.h h
section
variable {P : Program} {own : List Nat} {Q Q' : Exit -> St -> Prop} {st : St} {a b c : Code} {k : St -> Prop} {id n : Nat} {I : Nat -> St -> Prop}
instance : Nx (awp P own (.seq (.seq a b) c) Q st) (awp P own (.seq a (.seq b c)) Q st) := ⟨zqj⟩
instance : Nx (awp P own (.seq (.block id c) b) Q st) (awp P own c (znn id (zj9 (fun st => ∃ st', SealTo P st st' /\ awp P own b Q st') Q)) st) := ⟨zqa⟩
instance : Nx (awp P own (.block id c) Q st) (awp P own c (znn id Q) st) := ⟨zqi⟩
instance : Nx (awp P own (.seq .skip b) Q st) (awp P own b Q st) := ⟨zqb⟩
instance : Nx (awp P own (.seq .ret b) Q st) (Q .ret st) := ⟨zqg⟩
instance : Nx (awp P own (.seq (.exit id) b) Q st) (Q (.exit id) st) := ⟨zqc⟩
instance : Nx (awp P own .skip Q st) (Q .normal st) := ⟨zqk⟩
instance : Nx (awp P own (.exit id) Q st) (Q (.exit id) st) := ⟨zql⟩
instance : Nx (awp P own .ret Q st) (Q .ret st) := ⟨zqn⟩
instance : Nx (zj9 (fun st => ∃ st', SealTo P st st' /\ awp P own b Q st') Q' .normal st) (awp P own b Q st) := ⟨zqv⟩
instance : Nx (zj9 k Q (.exit id) st) (Q (.exit id) st) := ⟨zqw⟩
instance : Nx (zj9 k Q .ret st) (Q .ret st) := ⟨zqx⟩
instance : Nx (znn id Q .normal st) (Q .normal st) := ⟨zqy⟩
instance : Nx (znn id Q .ret st) (Q .ret st) := ⟨zqzb⟩
instance : Nx (zlo I n Q (.exit id) st) (Q (.exit id) st) := ⟨zqp⟩
instance : Nx (zlo I n Q .ret st) (Q .ret st) := ⟨zqo⟩
end
end Go.Proofs.YtfechgagcgbldaaDoor.Abs
namespace Go.Proofs.YtfechgagcgbldaaDoor.Abs
open Go.RowKit Go.ChangeShapes

def elD (ag : Bool) (p : List D) : D := if ag = true then .agg p else (p[0]?).getD .any
def elV (ag : Bool) (p : List Value) : Value := if ag = true then .agg p.toArray else (p[0]?).getD undef
def zjd (T : TypeId -> List D -> Prop) : List Field -> List D -> Prop
 | [], ds => ds = []
 | f :: fs, ds => ∃ d1 d2, ds = d1 ++ d2 /\ T f.type d1 /\ zjd T fs d2
def z51 (P : Program) : Nat -> TypeId -> List D -> Prop
 | 0, _, _ => False
 | n + 1, t, ds => match P.underlying t with
  | some .bool => ∃ b, ds = [.bool b]
  | some (.int k) => ∃ i, ds = [.int k i] /\ (Lit.int k i).wf = true
  | some .string => ∃ s : ByteArray, ds = [.str s] /\ s.size <= maxLen
  | some (.slice e) => ∃ parts : List (List D), parts.length <= maxLen /\ (∀ p ∈ parts, z51 P n e p) /\ ds = [.rsl false (z00 P e) (parts.map (elD (z03 P e)))]
  | some (.struct fs) => zjd (z51 P n) fs.toList ds
  | _ => False
def zlr (P : Program) (n : Nat) : List Field -> Nat -> Bool
 | [], off => off == n
 | f :: fs, off => f.offset == off && zlr P n fs (off + P.cellsOf f.type)
def zno (P : Program) (S : List TypeId) : Bool :=
 S.all fun t => match P.underlying t with
  | some .bool | some (.int _) | some .string => true
  | some (.slice e) => S.any fun u => u == e
  | some (.struct fs) => zlr P (P.cellsOf t) fs.toList 0 && fs.toList.all fun f => S.any fun u => u == f.type
  | _ => false

section
variable {H : Type} {enc : TypeId × Value -> H} {P : Program} {W : World} {base : Nat} {spare : Nat -> Bool} {held : Bool}
theorem zvq {S : List TypeId} {e : TypeId} (h : (S.any fun u => u == e) = true) : e ∈ S := by
 obtain ⟨x, hx, he⟩ := List.any_eq_true.1 h
 rw [<- beq_iff_eq.1 he]; exact hx
theorem z5j {d : D} {v : Value} (h : rel (z7o W) d v) (h1 : v.oneCell' = true) : relAll (z7o W) [d] [v] /\ z69 [v] :=
 ⟨z08 h z0f, fun u hu => by simp at hu; subst hu; exact h1⟩
theorem zs0 {S : List TypeId} (hS : zno P S = true) : ∀ (n : Nat) (t : TypeId) (cs : List Value) (x : DataW H × List MemPlace), t ∈ S -> DataW.trod enc P W base spare held n t cs = some x ->
  ∃ ds, relAll (z7o W) ds cs /\ z69 cs /\ z51 P n t ds /\ (z03 P t = false -> ∃ c d, cs = [c] /\ ds = [d]) := by
 intro n
 induction n with
 | zero => intro t cs x _ h; simp [DataW.trod] at h
 | succ n ih =>
  intro t cs x ht h
  have hc := List.all_eq_true.1 hS t ht
  cases hu : P.underlying t with
  | none => rw [hu] at hc; cases hc
  | some td =>
   rw [hu] at hc
   cases td <;> first | (cases hc; done) | skip
   case bool =>
    obtain ⟨b, rfl, _⟩ := DataW.trod_bool hu h
    obtain ⟨h1, h2⟩ := z5j (W := W) (d := .bool b) (v := .bool b) (by simp [rel]) rfl
    exact ⟨_, h1, h2, by simp only [z51, hu]; exact ⟨b, rfl⟩, fun _ => ⟨_, _, rfl, rfl⟩⟩
   case int k =>
    obtain ⟨i, rfl, _, hw⟩ := DataW.trod_int hu h
    obtain ⟨h1, h2⟩ := z5j (W := W) (d := .int k i) (v := .int k i) (by simp [rel]) rfl
    exact ⟨_, h1, h2, by simp only [z51, hu]; exact ⟨i, rfl, hw⟩, fun _ => ⟨_, _, rfl, rfl⟩⟩
   case string =>
    obtain ⟨s, rfl, _, hw⟩ := DataW.trod_string hu h
    obtain ⟨h1, h2⟩ := z5j (W := W) (d := .str s) (v := .string s) (by simp [rel]) rfl
    exact ⟨_, h1, h2, by simp only [z51, hu]; exact ⟨s, rfl, hw⟩, fun _ => ⟨_, _, rfl, rfl⟩⟩
   case slice e =>
    have he := zvq hc
    rcases DataW.trod_slice hu h with ⟨rfl, _⟩ | ⟨a, len, cap, elems, rest, m, hm, rfl, _, _, hl, hcm, hlen, hel, _⟩
    ·obtain ⟨h1, h2⟩ := z5j (W := W) (d := .rsl false (z00 P e) []) (v := .slice none 0 0) (by simp only [rel]; exact .inl ⟨trivial, trivial, trivial⟩) rfl
     exact ⟨_, h1, h2, by simp only [z51, hu]; exact ⟨[], by simp, by simp, rfl⟩, fun _ => ⟨_, _, rfl, rfl⟩⟩
    ·cases hm
     have each : ∀ i : _root_.Fin len, ∃ p : List Value × List D, W.cells? base (a.add (i * P.cellsOf e)) (P.cellsOf e) = some p.1 /\ relAll (z7o W) p.2 p.1 /\ z69 p.1 /\ z51 P n e p.2 /\ (z03 P e = false -> ∃ c d, p.1 = [c] /\ p.2 = [d]) := by
      intro i
      have hi := hel i i.2
      rw [List.getElem?_eq_getElem (by omega), Option.bind_eq_some_iff] at hi
      obtain ⟨cs', h1, h2⟩ := hi
      obtain ⟨ds, k1, k2, k3, k4⟩ := ih e cs' _ he h2
      exact ⟨(cs', ds), h1, k1, k2, k3, k4⟩
     obtain ⟨f, hf⟩ := Classical.axiomOfChoice each
     have hag : ∀ i, rel (z7o W) (elD (z03 P e) (f i).2) (elV (z03 P e) (f i).1) /\ (elV (z03 P e) (f i).1).cells.toList = (f i).1 := by
      intro i
      obtain ⟨h1, h2, h3, h4, h5⟩ := hf i
      cases hag : z03 P e with
      | true =>
       simp only [elD, elV, if_true, Value.cells]
       exact ⟨by simp only [rel]; exact ⟨_, rfl, h2, h3⟩, trivial⟩
      | false =>
       obtain ⟨c, d, hc1, hd1⟩ := h5 hag
       rw [hc1, hd1] at h2
       rw [hc1] at h3
       simp only [elD, elV, hc1, hd1, Bool.false_eq_true, if_false, List.getElem?_cons_zero, Option.getD_some]
       simp only [relAll] at h2
       obtain ⟨v, r, hv, hrel, hr⟩ := h2
       simp only [List.cons.injEq] at hv
       obtain ⟨rfl, rfl⟩ := hv
       refine ⟨hrel, ?_⟩
       rw [z21 (h3 c (by simp))]
     have hsz : z00 P e = P.cellsOf e := rfl
     obtain ⟨h1, h2⟩ := z5j (W := W) (d := .rsl false (z00 P e) ((List.ofFn fun i => (f i).2).map (elD (z03 P e)))) (v := .slice (some a) len cap) (by
      simp only [rel]
      refine .inr ⟨a, cap, List.ofFn fun i => elV (z03 P e) (f i).1, by simp, by simpa using hl, hcm, z40 (by simp) (fun i d v V hv => ?_), fun i v hv => ?_⟩
      ·simp only [List.getElem?_map, List.getElem?_ofFn] at V hv
       split at hv
       ·rename_i hi
        rw [dif_pos hi] at V
        simp only [Option.map_some, Option.some.injEq] at V hv
        subst V; subst hv
        exact (hag ⟨i, hi⟩).1
       ·cases hv
      ·simp only [List.getElem?_ofFn] at hv
       split at hv
       ·rename_i hi
        simp only [Option.some.injEq] at hv
        subst hv
        obtain ⟨g1, _⟩ := hf ⟨i, hi⟩
        obtain ⟨_, g2, g3⟩ := World.cells?_some g1
        have g4 := (hag ⟨i, hi⟩).2
        refine ⟨by rw [<- Array.length_toList, g4, g2, hsz], fun j c hj => ?_⟩
        rw [g4] at hj
        have hjl : j < P.cellsOf e := by rw [<- g2]; exact (List.getElem?_eq_some_iff.1 hj).1
        have := g3 j hjl
        rw [hj] at this
        exact this
       ·cases hv) rfl
     refine ⟨_, h1, h2, ?_, fun _ => ⟨_, _, rfl, rfl⟩⟩
     simp only [z51, hu]
     refine ⟨List.ofFn fun i => (f i).2, by simp; omega, fun p hp => ?_, rfl⟩
     obtain ⟨i, rfl⟩ := List.mem_ofFn.1 hp
     exact (hf i).2.2.2.1
   case struct fs =>
    obtain ⟨xs, m, hm, _, hcl, hxl, hxf⟩ := DataW.trod_struct hu h
    cases hm
    simp only [Bool.and_eq_true] at hc
    obtain ⟨htile, hfs⟩ := hc
    have key : ∀ (l : List Field) (off k : Nat), (∀ i, l[i]? = fs[k + i]?) -> zlr P (P.cellsOf t) l off = true -> ∃ ds, relAll (z7o W) ds (cs.drop off) /\ z69 (cs.drop off) /\ zjd (z51 P n) l ds := by
     intro l
     induction l with
     | nil =>
      intro off k _ ht'
      simp only [zlr, beq_iff_eq] at ht'
      subst ht'
      rw [<- hcl, List.drop_length]
      exact ⟨[], z0f, fun v hv => by simp at hv, rfl⟩
     | cons g l ihl =>
      intro off k hl ht'
      simp only [zlr, Bool.and_eq_true, beq_iff_eq] at ht'
      obtain ⟨rfl, ht'⟩ := ht'
      have hg : fs[k]? = some g := by have := hl 0; simpa using this.symm
      have hlt : k < fs.size := (Array.getElem?_eq_some_iff.1 hg).1
      have hx := hxf k g hg
      rw [List.getElem?_eq_getElem (by omega)] at hx
      have hmem : g ∈ fs.toList := by
       obtain ⟨h1, h2⟩ := Array.getElem?_eq_some_iff.1 hg
       rw [<- h2]; exact Array.mem_toList_iff.2 (Array.getElem_mem h1)
      obtain ⟨d1, r1, r2, r3, _⟩ := ih g.type _ _ (zvq (List.all_eq_true.1 hfs g hmem)) hx
      obtain ⟨d2, q1, q2, q3⟩ := ihl (g.offset + P.cellsOf g.type) (k + 1) (fun i => by have := hl (i + 1); simpa [Nat.add_assoc, Nat.add_comm 1 i] using this) ht'
      have hsp : cs.drop g.offset = (cs.drop g.offset).take (P.cellsOf g.type) ++ cs.drop (g.offset + P.cellsOf g.type) := by
       rw [<- List.drop_drop, List.take_append_drop]
      rw [hsp]
      exact ⟨d1 ++ d2, z1d r1 q1, fun v hv => by
       rcases List.mem_append.1 hv with hv | hv
       ·exact r2 v hv
       ·exact q2 v hv, d1, d2, rfl, r3, q3⟩
    obtain ⟨ds, h1, h2, h3⟩ := key fs.toList 0 0 (fun i => by simp) htile
    rw [List.drop_zero] at h1 h2
    refine ⟨ds, h1, h2, by simp only [z51, hu]; exact h3, fun hag => ?_⟩
    simp only [z03, hu] at hag
    cases hag
theorem agg_arg {S : List TypeId} (hS : zno P S = true) {t : TypeId} {cs : Array Value} {d : DataW H} {p : List MemPlace} (ht : t ∈ S) (h : DataW.Trod enc P W base spare held t (.agg cs) d p) :
  ∃ n ds, z51 P n t ds /\ rel (z7o W) (.agg ds) (.agg cs) := by
 obtain ⟨n, h⟩ := h
 obtain ⟨ds, h1, h2, h3, _⟩ := zs0 hS n t _ _ ht h
 refine ⟨n, ds, h3, ?_⟩
 simp only [rel]
 exact ⟨cs.toList, by simp, by simpa [Value.cells] using h1, by simpa [Value.cells] using h2⟩
end
section
variable {P : Program} {n : Nat} {t e : TypeId} {d : D} {ds : List D}
theorem wf_i64 {i : Int} (h : (Lit.int .i64 i).wf = true) : -9223372036854775808 <= i /\ i <= 9223372036854775807 := by
 simp only [Lit.wf, Bool.and_eq_true, decide_eq_true_eq] at h
 exact h
theorem z67 (hu : P.underlying t = some (.int .i64)) (h : z51 P n t ds) : ∃ i : Int, ds = [.int .i64 i] /\ -9223372036854775808 <= i /\ i <= 9223372036854775807 := by
 cases n with
 | zero => exact h.elim
 | succ n =>
  simp only [z51, hu] at h
  obtain ⟨i, h1, h2⟩ := h
  exact ⟨i, h1, wf_i64 h2⟩
theorem zls (hu : P.underlying t = some .string) (h : z51 P n t ds) : ∃ s : ByteArray, ds = [.str s] /\ s.size <= maxLen := by
 cases n with
 | zero => exact h.elim
 | succ n => simpa only [z51, hu] using h
theorem zg7 (hu : P.underlying t = some (.slice e)) (h : z51 P n t ds) : ∃ (m : Nat) (parts : List (List D)), n = m + 1 /\ parts.length <= maxLen /\ (∀ p ∈ parts, z51 P m e p) /\ ds = [.rsl false (z00 P e) (parts.map (elD (z03 P e)))] := by
 cases n with
 | zero => exact h.elim
 | succ n =>
  simp only [z51, hu] at h
  obtain ⟨parts, h1, h2, h3⟩ := h
  exact ⟨n, parts, rfl, h1, h2, h3⟩
theorem z6n {fs : Array Field} (hu : P.underlying t = some (.struct fs)) (h : z51 P n t ds) : ∃ m, n = m + 1 /\ zjd (z51 P m) fs.toList ds := by
 cases n with
 | zero => exact h.elim
 | succ n => exact ⟨n, rfl, by simpa only [z51, hu] using h⟩
theorem z82 {α : Type} {good : List D -> Prop} {f : α -> List D} {q : α -> Prop} (h : ∀ p, good p -> ∃ x, p = f x /\ q x) : ∀ (parts : List (List D)), (∀ p ∈ parts, good p) -> ∃ l : List α, parts = l.map f /\ (∀ x ∈ l, q x)
 | [], _ => ⟨[], rfl, by simp⟩
 | p :: parts, hp => by
  obtain ⟨x, hx, hq⟩ := h p (hp p (by simp))
  obtain ⟨l, hl, hq'⟩ := z82 h parts (fun p' hp' => hp p' (by simp [hp']))
  exact ⟨x :: l, by simp [hx, hl], by simp; exact ⟨hq, hq'⟩⟩
end
end Go.Proofs.YtfechgagcgbldaaDoor.Abs
namespace Go.Proofs.YtfechgagcgbldaaDoor.Facts
open Go.Proofs.YtfechgagcgbldaaDoor.Abs
@[go_sem] theorem ty1 : z03 Tryd.prog 1 = false /\ z0p Tryd.prog 1 = true /\ z0v Tryd.prog 1 = none /\ z4v Tryd.prog 1 = none /\ z54 Tryd.prog 1 = none /\ z4r Tryd.prog 1 = false /\ z1u Tryd.prog 1 = false /\ z3r Tryd.prog 1 = none /\ z00 Tryd.prog 1 = 1 /\ z0n Tryd.prog 1 = 8 /\ z18 Tryd.prog 1 = some [D.nfun] /\ z0g Tryd.prog 1 = true := by refine ⟨?_, ?_, ?_, ?_, ?_, ?_, ?_, ?_, ?_, ?_, ?_, ?_⟩ <;> kernel_rfl
@[go_sem] theorem ty2 : z03 Tryd.prog 2 = false /\ z0p Tryd.prog 2 = true /\ z0v Tryd.prog 2 = none /\ z4v Tryd.prog 2 = none /\ z54 Tryd.prog 2 = some .i64 /\ z4r Tryd.prog 2 = false /\ z1u Tryd.prog 2 = false /\ z3r Tryd.prog 2 = none /\ z00 Tryd.prog 2 = 1 /\ z0n Tryd.prog 2 = 8 /\ z18 Tryd.prog 2 = some [D.int .i64 0] /\ z0g Tryd.prog 2 = true := by refine ⟨?_, ?_, ?_, ?_, ?_, ?_, ?_, ?_, ?_, ?_, ?_, ?_⟩ <;> kernel_rfl
@[go_sem] theorem ty3 : z03 Tryd.prog 3 = false /\ z0p Tryd.prog 3 = true /\ z0v Tryd.prog 3 = none /\ z4v Tryd.prog 3 = none /\ z54 Tryd.prog 3 = some .i64 /\ z4r Tryd.prog 3 = false /\ z1u Tryd.prog 3 = false /\ z3r Tryd.prog 3 = none /\ z00 Tryd.prog 3 = 1 /\ z0n Tryd.prog 3 = 8 /\ z18 Tryd.prog 3 = some [D.int .i64 0] /\ z0g Tryd.prog 3 = true := by refine ⟨?_, ?_, ?_, ?_, ?_, ?_, ?_, ?_, ?_, ?_, ?_, ?_⟩ <;> kernel_rfl
theorem z2n : z03 Tryd.prog 3 = false := ty3.1
theorem z6u : z0p Tryd.prog 3 = true := ty3.2.1
theorem z52 : z00 Tryd.prog 3 = 1 := ty3.2.2.2.2.2.2.2.2.1
@[go_sem] theorem ty4 : z03 Tryd.prog 4 = false /\ z0p Tryd.prog 4 = true /\ z0v Tryd.prog 4 = none /\ z4v Tryd.prog 4 = none /\ z54 Tryd.prog 4 = none /\ z4r Tryd.prog 4 = false /\ z1u Tryd.prog 4 = true /\ z3r Tryd.prog 4 = none /\ z00 Tryd.prog 4 = 1 /\ z0n Tryd.prog 4 = 1 /\ z18 Tryd.prog 4 = some [D.bool false] /\ z0g Tryd.prog 4 = true := by refine ⟨?_, ?_, ?_, ?_, ?_, ?_, ?_, ?_, ?_, ?_, ?_, ?_⟩ <;> kernel_rfl
@[go_sem] theorem ty5 : z03 Tryd.prog 5 = false /\ z0p Tryd.prog 5 = true /\ z0v Tryd.prog 5 = none /\ z4v Tryd.prog 5 = none /\ z54 Tryd.prog 5 = some .u8 /\ z4r Tryd.prog 5 = false /\ z1u Tryd.prog 5 = false /\ z3r Tryd.prog 5 = none /\ z00 Tryd.prog 5 = 1 /\ z0n Tryd.prog 5 = 1 /\ z18 Tryd.prog 5 = some [D.int .u8 0] /\ z0g Tryd.prog 5 = true := by refine ⟨?_, ?_, ?_, ?_, ?_, ?_, ?_, ?_, ?_, ?_, ?_, ?_⟩ <;> kernel_rfl
@[go_sem] theorem ty9 : z03 Tryd.prog 9 = false /\ z0p Tryd.prog 9 = true /\ z0v Tryd.prog 9 = none /\ z4v Tryd.prog 9 = none /\ z54 Tryd.prog 9 = none /\ z4r Tryd.prog 9 = true /\ z1u Tryd.prog 9 = false /\ z3r Tryd.prog 9 = none /\ z00 Tryd.prog 9 = 1 /\ z0n Tryd.prog 9 = 16 /\ z18 Tryd.prog 9 = some [D.str ByteArray.empty] /\ z0g Tryd.prog 9 = true := by refine ⟨?_, ?_, ?_, ?_, ?_, ?_, ?_, ?_, ?_, ?_, ?_, ?_⟩ <;> kernel_rfl
theorem z8x : z03 Tryd.prog 9 = false := ty9.1
theorem zci : z0p Tryd.prog 9 = true := ty9.2.1
theorem zdb : z00 Tryd.prog 9 = 1 := ty9.2.2.2.2.2.2.2.2.1
@[go_sem] theorem ty21 : z03 Tryd.prog 21 = false /\ z0p Tryd.prog 21 = true /\ z0v Tryd.prog 21 = none /\ z4v Tryd.prog 21 = none /\ z54 Tryd.prog 21 = some .i32 /\ z4r Tryd.prog 21 = false /\ z1u Tryd.prog 21 = false /\ z3r Tryd.prog 21 = none /\ z00 Tryd.prog 21 = 1 /\ z0n Tryd.prog 21 = 4 /\ z18 Tryd.prog 21 = some [D.int .i32 0] /\ z0g Tryd.prog 21 = true := by refine ⟨?_, ?_, ?_, ?_, ?_, ?_, ?_, ?_, ?_, ?_, ?_, ?_⟩ <;> kernel_rfl
@[go_sem] theorem ty23 : z03 Tryd.prog 23 = true /\ z0p Tryd.prog 23 = false /\ z0v Tryd.prog 23 = none /\ z4v Tryd.prog 23 = none /\ z54 Tryd.prog 23 = none /\ z4r Tryd.prog 23 = false /\ z1u Tryd.prog 23 = false /\ z3r Tryd.prog 23 = none /\ z00 Tryd.prog 23 = 3 /\ z0n Tryd.prog 23 = 24 /\ z18 Tryd.prog 23 = some [D.int .i64 0, D.int .i64 0, D.int .i64 0] /\ z0g Tryd.prog 23 = true := by refine ⟨?_, ?_, ?_, ?_, ?_, ?_, ?_, ?_, ?_, ?_, ?_, ?_⟩ <;> kernel_rfl
theorem z6p : z03 Tryd.prog 23 = true := ty23.1
theorem z8y : z00 Tryd.prog 23 = 3 := ty23.2.2.2.2.2.2.2.2.1
@[go_sem] theorem fieldsOK23 : z2t Tryd.prog 23 = true := by kernel_rfl
@[go_sem] theorem fieldT23_0 : z10 Tryd.prog 23 0 = some (0, 3) := by kernel_rfl
@[go_sem] theorem fieldT23_1 : z10 Tryd.prog 23 1 = some (1, 3) := by kernel_rfl
@[go_sem] theorem fieldT23_2 : z10 Tryd.prog 23 2 = some (2, 3) := by kernel_rfl
@[go_sem] theorem ty24 : z03 Tryd.prog 24 = false /\ z0p Tryd.prog 24 = true /\ z0v Tryd.prog 24 = some 83 /\ z4v Tryd.prog 24 = none /\ z54 Tryd.prog 24 = none /\ z4r Tryd.prog 24 = false /\ z1u Tryd.prog 24 = false /\ z3r Tryd.prog 24 = none /\ z00 Tryd.prog 24 = 1 /\ z0n Tryd.prog 24 = 24 /\ z18 Tryd.prog 24 = some [D.nil] /\ z0g Tryd.prog 24 = true := by refine ⟨?_, ?_, ?_, ?_, ?_, ?_, ?_, ?_, ?_, ?_, ?_, ?_⟩ <;> kernel_rfl
@[go_sem] theorem ty25 : z03 Tryd.prog 25 = false /\ z0p Tryd.prog 25 = true /\ z0v Tryd.prog 25 = some 27 /\ z4v Tryd.prog 25 = none /\ z54 Tryd.prog 25 = none /\ z4r Tryd.prog 25 = false /\ z1u Tryd.prog 25 = false /\ z3r Tryd.prog 25 = none /\ z00 Tryd.prog 25 = 1 /\ z0n Tryd.prog 25 = 24 /\ z18 Tryd.prog 25 = some [D.nil] /\ z0g Tryd.prog 25 = true := by refine ⟨?_, ?_, ?_, ?_, ?_, ?_, ?_, ?_, ?_, ?_, ?_, ?_⟩ <;> kernel_rfl
@[go_sem] theorem ty27 : z03 Tryd.prog 27 = true /\ z0p Tryd.prog 27 = false /\ z0v Tryd.prog 27 = none /\ z4v Tryd.prog 27 = none /\ z54 Tryd.prog 27 = none /\ z4r Tryd.prog 27 = false /\ z1u Tryd.prog 27 = false /\ z3r Tryd.prog 27 = none /\ z00 Tryd.prog 27 = 8 /\ z0n Tryd.prog 27 = 120 /\ z18 Tryd.prog 27 = some [D.int .i64 0, D.int .i64 0, D.int .i64 0, D.int .i64 0, D.str ByteArray.empty, D.nil, D.nil, D.nil] /\ z0g Tryd.prog 27 = true := by refine ⟨?_, ?_, ?_, ?_, ?_, ?_, ?_, ?_, ?_, ?_, ?_, ?_⟩ <;> kernel_rfl
theorem zjf : z03 Tryd.prog 27 = true := ty27.1
theorem zvs : z00 Tryd.prog 27 = 8 := ty27.2.2.2.2.2.2.2.2.1
@[go_sem] theorem fieldsOK27 : z2t Tryd.prog 27 = true := by kernel_rfl
@[go_sem] theorem fieldT27_0 : z10 Tryd.prog 27 0 = some (0, 23) := by kernel_rfl
@[go_sem] theorem fieldT27_1 : z10 Tryd.prog 27 1 = some (3, 3) := by kernel_rfl
@[go_sem] theorem fieldT27_2 : z10 Tryd.prog 27 2 = some (4, 9) := by kernel_rfl
@[go_sem] theorem fieldT27_3 : z10 Tryd.prog 27 3 = some (5, 24) := by kernel_rfl
@[go_sem] theorem fieldT27_4 : z10 Tryd.prog 27 4 = some (6, 24) := by kernel_rfl
@[go_sem] theorem fieldT27_5 : z10 Tryd.prog 27 5 = some (7, 25) := by kernel_rfl
@[go_sem] theorem ty30 : z03 Tryd.prog 30 = false /\ z0p Tryd.prog 30 = true /\ z0v Tryd.prog 30 = some 53 /\ z4v Tryd.prog 30 = none /\ z54 Tryd.prog 30 = none /\ z4r Tryd.prog 30 = false /\ z1u Tryd.prog 30 = false /\ z3r Tryd.prog 30 = none /\ z00 Tryd.prog 30 = 1 /\ z0n Tryd.prog 30 = 24 /\ z18 Tryd.prog 30 = some [D.nil] /\ z0g Tryd.prog 30 = true := by refine ⟨?_, ?_, ?_, ?_, ?_, ?_, ?_, ?_, ?_, ?_, ?_, ?_⟩ <;> kernel_rfl
@[go_sem] theorem ty31 : z03 Tryd.prog 31 = false /\ z0p Tryd.prog 31 = true /\ z0v Tryd.prog 31 = some 33 /\ z4v Tryd.prog 31 = none /\ z54 Tryd.prog 31 = none /\ z4r Tryd.prog 31 = false /\ z1u Tryd.prog 31 = false /\ z3r Tryd.prog 31 = none /\ z00 Tryd.prog 31 = 1 /\ z0n Tryd.prog 31 = 24 /\ z18 Tryd.prog 31 = some [D.nil] /\ z0g Tryd.prog 31 = true := by refine ⟨?_, ?_, ?_, ?_, ?_, ?_, ?_, ?_, ?_, ?_, ?_, ?_⟩ <;> kernel_rfl
@[go_sem] theorem ty33 : z03 Tryd.prog 33 = true /\ z0p Tryd.prog 33 = false /\ z0v Tryd.prog 33 = none /\ z4v Tryd.prog 33 = none /\ z54 Tryd.prog 33 = none /\ z4r Tryd.prog 33 = false /\ z1u Tryd.prog 33 = false /\ z3r Tryd.prog 33 = none /\ z00 Tryd.prog 33 = 11 /\ z0n Tryd.prog 33 = 152 /\ z18 Tryd.prog 33 = some [D.int .i64 0, D.int .i64 0, D.int .i64 0, D.int .i64 0, D.int .i64 0, D.str ByteArray.empty, D.str ByteArray.empty, D.bool false, D.nil, D.nil, D.nil] /\ z0g Tryd.prog 33 = true := by refine ⟨?_, ?_, ?_, ?_, ?_, ?_, ?_, ?_, ?_, ?_, ?_, ?_⟩ <;> kernel_rfl
theorem zp3 : z03 Tryd.prog 33 = true := ty33.1
theorem zvt : z00 Tryd.prog 33 = 11 := ty33.2.2.2.2.2.2.2.2.1
@[go_sem] theorem fieldsOK33 : z2t Tryd.prog 33 = true := by kernel_rfl
@[go_sem] theorem fieldT33_0 : z10 Tryd.prog 33 0 = some (0, 3) := by kernel_rfl
@[go_sem] theorem fieldT33_1 : z10 Tryd.prog 33 1 = some (1, 3) := by kernel_rfl
@[go_sem] theorem fieldT33_2 : z10 Tryd.prog 33 2 = some (2, 23) := by kernel_rfl
@[go_sem] theorem fieldT33_3 : z10 Tryd.prog 33 3 = some (5, 9) := by kernel_rfl
@[go_sem] theorem fieldT33_4 : z10 Tryd.prog 33 4 = some (6, 9) := by kernel_rfl
@[go_sem] theorem fieldT33_5 : z10 Tryd.prog 33 5 = some (7, 4) := by kernel_rfl
@[go_sem] theorem fieldT33_6 : z10 Tryd.prog 33 6 = some (8, 30) := by kernel_rfl
@[go_sem] theorem fieldT33_7 : z10 Tryd.prog 33 7 = some (9, 30) := by kernel_rfl
@[go_sem] theorem fieldT33_8 : z10 Tryd.prog 33 8 = some (10, 31) := by kernel_rfl
@[go_sem] theorem ty34 : z03 Tryd.prog 34 = false /\ z0p Tryd.prog 34 = true /\ z0v Tryd.prog 34 = none /\ z4v Tryd.prog 34 = none /\ z54 Tryd.prog 34 = some .i64 /\ z4r Tryd.prog 34 = false /\ z1u Tryd.prog 34 = false /\ z3r Tryd.prog 34 = none /\ z00 Tryd.prog 34 = 1 /\ z0n Tryd.prog 34 = 8 /\ z18 Tryd.prog 34 = some [D.int .i64 0] /\ z0g Tryd.prog 34 = true := by refine ⟨?_, ?_, ?_, ?_, ?_, ?_, ?_, ?_, ?_, ?_, ?_, ?_⟩ <;> kernel_rfl
@[go_sem] theorem ty37 : z03 Tryd.prog 37 = false /\ z0p Tryd.prog 37 = true /\ z0v Tryd.prog 37 = none /\ z4v Tryd.prog 37 = none /\ z54 Tryd.prog 37 = none /\ z4r Tryd.prog 37 = false /\ z1u Tryd.prog 37 = false /\ z3r Tryd.prog 37 = some (23, 3) /\ z00 Tryd.prog 37 = 1 /\ z0n Tryd.prog 37 = 8 /\ z18 Tryd.prog 37 = some [D.nmp] /\ z0g Tryd.prog 37 = true := by refine ⟨?_, ?_, ?_, ?_, ?_, ?_, ?_, ?_, ?_, ?_, ?_, ?_⟩ <;> kernel_rfl
theorem zlt : z3r Tryd.prog 37 = some (23, 3) := ty37.2.2.2.2.2.2.2.1
@[go_sem] theorem ty39 : z03 Tryd.prog 39 = false /\ z0p Tryd.prog 39 = true /\ z0v Tryd.prog 39 = some 23 /\ z4v Tryd.prog 39 = none /\ z54 Tryd.prog 39 = none /\ z4r Tryd.prog 39 = false /\ z1u Tryd.prog 39 = false /\ z3r Tryd.prog 39 = none /\ z00 Tryd.prog 39 = 1 /\ z0n Tryd.prog 39 = 24 /\ z18 Tryd.prog 39 = some [D.nil] /\ z0g Tryd.prog 39 = true := by refine ⟨?_, ?_, ?_, ?_, ?_, ?_, ?_, ?_, ?_, ?_, ?_, ?_⟩ <;> kernel_rfl
@[go_sem] theorem ty53 : z03 Tryd.prog 53 = true /\ z0p Tryd.prog 53 = false /\ z0v Tryd.prog 53 = none /\ z4v Tryd.prog 53 = none /\ z54 Tryd.prog 53 = none /\ z4r Tryd.prog 53 = false /\ z1u Tryd.prog 53 = false /\ z3r Tryd.prog 53 = none /\ z00 Tryd.prog 53 = 2 /\ z0n Tryd.prog 53 = 24 /\ z18 Tryd.prog 53 = some [D.int .i64 0, D.str ByteArray.empty] /\ z0g Tryd.prog 53 = true := by refine ⟨?_, ?_, ?_, ?_, ?_, ?_, ?_, ?_, ?_, ?_, ?_, ?_⟩ <;> kernel_rfl
theorem zz8 : z03 Tryd.prog 53 = true := ty53.1
theorem sizeT53 : z00 Tryd.prog 53 = 2 := ty53.2.2.2.2.2.2.2.2.1
@[go_sem] theorem fieldsOK53 : z2t Tryd.prog 53 = true := by kernel_rfl
@[go_sem] theorem fieldT53_0 : z10 Tryd.prog 53 0 = some (0, 3) := by kernel_rfl
@[go_sem] theorem fieldT53_1 : z10 Tryd.prog 53 1 = some (1, 9) := by kernel_rfl
@[go_sem] theorem ty54 : z03 Tryd.prog 54 = false /\ z0p Tryd.prog 54 = true /\ z0v Tryd.prog 54 = none /\ z4v Tryd.prog 54 = none /\ z54 Tryd.prog 54 = none /\ z4r Tryd.prog 54 = false /\ z1u Tryd.prog 54 = false /\ z3r Tryd.prog 54 = some (23, 27) /\ z00 Tryd.prog 54 = 1 /\ z0n Tryd.prog 54 = 8 /\ z18 Tryd.prog 54 = some [D.nmp] /\ z0g Tryd.prog 54 = true := by refine ⟨?_, ?_, ?_, ?_, ?_, ?_, ?_, ?_, ?_, ?_, ?_, ?_⟩ <;> kernel_rfl
theorem mapT54 : z3r Tryd.prog 54 = some (23, 27) := ty54.2.2.2.2.2.2.2.1
@[go_sem] theorem ty55 : z03 Tryd.prog 55 = false /\ z0p Tryd.prog 55 = true /\ z0v Tryd.prog 55 = none /\ z4v Tryd.prog 55 = none /\ z54 Tryd.prog 55 = none /\ z4r Tryd.prog 55 = false /\ z1u Tryd.prog 55 = false /\ z3r Tryd.prog 55 = some (23, 4) /\ z00 Tryd.prog 55 = 1 /\ z0n Tryd.prog 55 = 8 /\ z18 Tryd.prog 55 = some [D.nmp] /\ z0g Tryd.prog 55 = true := by refine ⟨?_, ?_, ?_, ?_, ?_, ?_, ?_, ?_, ?_, ?_, ?_, ?_⟩ <;> kernel_rfl
theorem mapT55 : z3r Tryd.prog 55 = some (23, 4) := ty55.2.2.2.2.2.2.2.1
@[go_sem] theorem ty57 : z03 Tryd.prog 57 = true /\ z0p Tryd.prog 57 = false /\ z0v Tryd.prog 57 = none /\ z4v Tryd.prog 57 = none /\ z54 Tryd.prog 57 = none /\ z4r Tryd.prog 57 = false /\ z1u Tryd.prog 57 = false /\ z3r Tryd.prog 57 = none /\ z00 Tryd.prog 57 = 3 /\ z0n Tryd.prog 57 = 24 /\ z18 Tryd.prog 57 = some [D.nmp, D.nmp, D.nmp] /\ z0g Tryd.prog 57 = true := by refine ⟨?_, ?_, ?_, ?_, ?_, ?_, ?_, ?_, ?_, ?_, ?_, ?_⟩ <;> kernel_rfl
@[go_sem] theorem fieldsOK57 : z2t Tryd.prog 57 = true := by kernel_rfl
@[go_sem] theorem fieldT57_0 : z10 Tryd.prog 57 0 = some (0, 54) := by kernel_rfl
@[go_sem] theorem fieldT57_1 : z10 Tryd.prog 57 1 = some (1, 54) := by kernel_rfl
@[go_sem] theorem fieldT57_2 : z10 Tryd.prog 57 2 = some (2, 55) := by kernel_rfl
@[go_sem] theorem ty69 : z03 Tryd.prog 69 = false /\ z0p Tryd.prog 69 = true /\ z0v Tryd.prog 69 = none /\ z4v Tryd.prog 69 = none /\ z54 Tryd.prog 69 = none /\ z4r Tryd.prog 69 = false /\ z1u Tryd.prog 69 = false /\ z3r Tryd.prog 69 = none /\ z00 Tryd.prog 69 = 1 /\ z0n Tryd.prog 69 = 8 /\ z18 Tryd.prog 69 = some [D.nfun] /\ z0g Tryd.prog 69 = true := by refine ⟨?_, ?_, ?_, ?_, ?_, ?_, ?_, ?_, ?_, ?_, ?_, ?_⟩ <;> kernel_rfl
@[go_sem] theorem ty79 : z03 Tryd.prog 79 = false /\ z0p Tryd.prog 79 = true /\ z0v Tryd.prog 79 = some 9 /\ z4v Tryd.prog 79 = none /\ z54 Tryd.prog 79 = none /\ z4r Tryd.prog 79 = false /\ z1u Tryd.prog 79 = false /\ z3r Tryd.prog 79 = none /\ z00 Tryd.prog 79 = 1 /\ z0n Tryd.prog 79 = 24 /\ z18 Tryd.prog 79 = some [D.nil] /\ z0g Tryd.prog 79 = true := by refine ⟨?_, ?_, ?_, ?_, ?_, ?_, ?_, ?_, ?_, ?_, ?_, ?_⟩ <;> kernel_rfl
theorem zp4 : z03 Tryd.prog 79 = false := ty79.1
@[go_sem] theorem ty81 : z03 Tryd.prog 81 = true /\ z0p Tryd.prog 81 = false /\ z0v Tryd.prog 81 = none /\ z4v Tryd.prog 81 = none /\ z54 Tryd.prog 81 = none /\ z4r Tryd.prog 81 = false /\ z1u Tryd.prog 81 = false /\ z3r Tryd.prog 81 = none /\ z00 Tryd.prog 81 = 3 /\ z0n Tryd.prog 81 = 24 /\ z18 Tryd.prog 81 = some [D.int .i64 0, D.int .i64 0, D.int .i64 0] /\ z0g Tryd.prog 81 = true := by refine ⟨?_, ?_, ?_, ?_, ?_, ?_, ?_, ?_, ?_, ?_, ?_, ?_⟩ <;> kernel_rfl
theorem zp5 : z03 Tryd.prog 81 = true := ty81.1
theorem zp6 : z0p Tryd.prog 81 = false := ty81.2.1
theorem zvu : z00 Tryd.prog 81 = 3 := ty81.2.2.2.2.2.2.2.2.1
@[go_sem] theorem fieldsOK81 : z2t Tryd.prog 81 = true := by kernel_rfl
@[go_sem] theorem fieldT81_0 : z10 Tryd.prog 81 0 = some (0, 3) := by kernel_rfl
@[go_sem] theorem fieldT81_1 : z10 Tryd.prog 81 1 = some (1, 3) := by kernel_rfl
@[go_sem] theorem fieldT81_2 : z10 Tryd.prog 81 2 = some (2, 3) := by kernel_rfl
@[go_sem] theorem ty83 : z03 Tryd.prog 83 = true /\ z0p Tryd.prog 83 = false /\ z0v Tryd.prog 83 = none /\ z4v Tryd.prog 83 = none /\ z54 Tryd.prog 83 = none /\ z4r Tryd.prog 83 = false /\ z1u Tryd.prog 83 = false /\ z3r Tryd.prog 83 = none /\ z00 Tryd.prog 83 = 4 /\ z0n Tryd.prog 83 = 40 /\ z18 Tryd.prog 83 = some [D.str ByteArray.empty, D.int .i64 0, D.int .i64 0, D.int .i64 0] /\ z0g Tryd.prog 83 = true := by refine ⟨?_, ?_, ?_, ?_, ?_, ?_, ?_, ?_, ?_, ?_, ?_, ?_⟩ <;> kernel_rfl
theorem zp7 : z03 Tryd.prog 83 = true := ty83.1
theorem zvv : z00 Tryd.prog 83 = 4 := ty83.2.2.2.2.2.2.2.2.1
@[go_sem] theorem fieldsOK83 : z2t Tryd.prog 83 = true := by kernel_rfl
@[go_sem] theorem fieldT83_0 : z10 Tryd.prog 83 0 = some (0, 9) := by kernel_rfl
@[go_sem] theorem fieldT83_1 : z10 Tryd.prog 83 1 = some (1, 81) := by kernel_rfl
@[go_sem] theorem ty87 : z03 Tryd.prog 87 = false /\ z0p Tryd.prog 87 = true /\ z0v Tryd.prog 87 = some 90 /\ z4v Tryd.prog 87 = none /\ z54 Tryd.prog 87 = none /\ z4r Tryd.prog 87 = false /\ z1u Tryd.prog 87 = false /\ z3r Tryd.prog 87 = none /\ z00 Tryd.prog 87 = 1 /\ z0n Tryd.prog 87 = 24 /\ z18 Tryd.prog 87 = some [D.nil] /\ z0g Tryd.prog 87 = true := by refine ⟨?_, ?_, ?_, ?_, ?_, ?_, ?_, ?_, ?_, ?_, ?_, ?_⟩ <;> kernel_rfl
@[go_sem] theorem ty90 : z03 Tryd.prog 90 = true /\ z0p Tryd.prog 90 = false /\ z0v Tryd.prog 90 = none /\ z4v Tryd.prog 90 = none /\ z54 Tryd.prog 90 = none /\ z4r Tryd.prog 90 = false /\ z1u Tryd.prog 90 = false /\ z3r Tryd.prog 90 = none /\ z00 Tryd.prog 90 = 2 /\ z0n Tryd.prog 90 = 16 /\ z18 Tryd.prog 90 = some [D.int .i64 0, D.int .i64 0] /\ z0g Tryd.prog 90 = true := by refine ⟨?_, ?_, ?_, ?_, ?_, ?_, ?_, ?_, ?_, ?_, ?_, ?_⟩ <;> kernel_rfl
theorem zp8 : z03 Tryd.prog 90 = true := ty90.1
theorem zvw : z00 Tryd.prog 90 = 2 := ty90.2.2.2.2.2.2.2.2.1
@[go_sem] theorem fieldsOK90 : z2t Tryd.prog 90 = true := by kernel_rfl
@[go_sem] theorem fieldT90_0 : z10 Tryd.prog 90 0 = some (0, 3) := by kernel_rfl
@[go_sem] theorem fieldT90_1 : z10 Tryd.prog 90 1 = some (1, 3) := by kernel_rfl
@[go_sem] theorem ty93 : z03 Tryd.prog 93 = false /\ z0p Tryd.prog 93 = true /\ z0v Tryd.prog 93 = some 3 /\ z4v Tryd.prog 93 = none /\ z54 Tryd.prog 93 = none /\ z4r Tryd.prog 93 = false /\ z1u Tryd.prog 93 = false /\ z3r Tryd.prog 93 = none /\ z00 Tryd.prog 93 = 1 /\ z0n Tryd.prog 93 = 24 /\ z18 Tryd.prog 93 = some [D.nil] /\ z0g Tryd.prog 93 = true := by refine ⟨?_, ?_, ?_, ?_, ?_, ?_, ?_, ?_, ?_, ?_, ?_, ?_⟩ <;> kernel_rfl
theorem zz9 : z03 Tryd.prog 93 = false := ty93.1
@[go_sem] theorem ty98 : z03 Tryd.prog 98 = false /\ z0p Tryd.prog 98 = true /\ z0v Tryd.prog 98 = none /\ z4v Tryd.prog 98 = none /\ z54 Tryd.prog 98 = none /\ z4r Tryd.prog 98 = false /\ z1u Tryd.prog 98 = false /\ z3r Tryd.prog 98 = some (23, 119) /\ z00 Tryd.prog 98 = 1 /\ z0n Tryd.prog 98 = 8 /\ z18 Tryd.prog 98 = some [D.nmp] /\ z0g Tryd.prog 98 = true := by refine ⟨?_, ?_, ?_, ?_, ?_, ?_, ?_, ?_, ?_, ?_, ?_, ?_⟩ <;> kernel_rfl
theorem mapT98 : z3r Tryd.prog 98 = some (23, 119) := ty98.2.2.2.2.2.2.2.1
@[go_sem] theorem ty100 : z03 Tryd.prog 100 = true /\ z0p Tryd.prog 100 = false /\ z0v Tryd.prog 100 = none /\ z4v Tryd.prog 100 = none /\ z54 Tryd.prog 100 = none /\ z4r Tryd.prog 100 = false /\ z1u Tryd.prog 100 = false /\ z3r Tryd.prog 100 = none /\ z00 Tryd.prog 100 = 18 /\ z0n Tryd.prog 100 = 256 /\ z0g Tryd.prog 100 = true := by refine ⟨?_, ?_, ?_, ?_, ?_, ?_, ?_, ?_, ?_, ?_, ?_⟩ <;> kernel_rfl
@[go_sem] theorem fieldsOK100 : z2t Tryd.prog 100 = true := by kernel_rfl
@[go_sem] theorem fieldT100_0 : z10 Tryd.prog 100 0 = some (0, 27) := by kernel_rfl
@[go_sem] theorem fieldT100_1 : z10 Tryd.prog 100 1 = some (8, 27) := by kernel_rfl
@[go_sem] theorem fieldT100_2 : z10 Tryd.prog 100 2 = some (16, 98) := by kernel_rfl
@[go_sem] theorem fieldT100_3 : z10 Tryd.prog 100 3 = some (17, 98) := by kernel_rfl
theorem zza : z18 Tryd.prog 100 = some [D.int .i64 0, D.int .i64 0, D.int .i64 0, D.int .i64 0, D.str ByteArray.empty, D.nil, D.nil, D.nil, D.int .i64 0, D.int .i64 0, D.int .i64 0, D.int .i64 0, D.str ByteArray.empty, D.nil, D.nil, D.nil, D.nmp, D.nmp] := by kernel_rfl
@[go_sem] theorem ty105 : z03 Tryd.prog 105 = false /\ z0p Tryd.prog 105 = true /\ z0v Tryd.prog 105 = none /\ z4v Tryd.prog 105 = none /\ z54 Tryd.prog 105 = none /\ z4r Tryd.prog 105 = false /\ z1u Tryd.prog 105 = false /\ z3r Tryd.prog 105 = none /\ z00 Tryd.prog 105 = 1 /\ z0n Tryd.prog 105 = 8 /\ z18 Tryd.prog 105 = some [D.nfun] /\ z0g Tryd.prog 105 = true := by refine ⟨?_, ?_, ?_, ?_, ?_, ?_, ?_, ?_, ?_, ?_, ?_, ?_⟩ <;> kernel_rfl
theorem zvx : z03 Tryd.prog 105 = false := ty105.1
@[go_sem] theorem ty109 : z03 Tryd.prog 109 = false /\ z0p Tryd.prog 109 = true /\ z0v Tryd.prog 109 = none /\ z4v Tryd.prog 109 = none /\ z54 Tryd.prog 109 = none /\ z4r Tryd.prog 109 = false /\ z1u Tryd.prog 109 = false /\ z3r Tryd.prog 109 = none /\ z00 Tryd.prog 109 = 1 /\ z0n Tryd.prog 109 = 8 /\ z18 Tryd.prog 109 = some [D.nfun] /\ z0g Tryd.prog 109 = true := by refine ⟨?_, ?_, ?_, ?_, ?_, ?_, ?_, ?_, ?_, ?_, ?_, ?_⟩ <;> kernel_rfl
@[go_sem] theorem ty112 : z03 Tryd.prog 112 = false /\ z0p Tryd.prog 112 = true /\ z0v Tryd.prog 112 = none /\ z4v Tryd.prog 112 = none /\ z54 Tryd.prog 112 = none /\ z4r Tryd.prog 112 = false /\ z1u Tryd.prog 112 = false /\ z3r Tryd.prog 112 = none /\ z00 Tryd.prog 112 = 1 /\ z0n Tryd.prog 112 = 8 /\ z18 Tryd.prog 112 = some [D.nfun] /\ z0g Tryd.prog 112 = true := by refine ⟨?_, ?_, ?_, ?_, ?_, ?_, ?_, ?_, ?_, ?_, ?_, ?_⟩ <;> kernel_rfl
@[go_sem] theorem ty113 : z03 Tryd.prog 113 = false /\ z0p Tryd.prog 113 = true /\ z0v Tryd.prog 113 = none /\ z4v Tryd.prog 113 = none /\ z54 Tryd.prog 113 = none /\ z4r Tryd.prog 113 = false /\ z1u Tryd.prog 113 = false /\ z3r Tryd.prog 113 = some (115, 4) /\ z00 Tryd.prog 113 = 1 /\ z0n Tryd.prog 113 = 8 /\ z18 Tryd.prog 113 = some [D.nmp] /\ z0g Tryd.prog 113 = true := by refine ⟨?_, ?_, ?_, ?_, ?_, ?_, ?_, ?_, ?_, ?_, ?_, ?_⟩ <;> kernel_rfl
@[go_sem] theorem ty115 : z03 Tryd.prog 115 = true /\ z0p Tryd.prog 115 = false /\ z0v Tryd.prog 115 = none /\ z4v Tryd.prog 115 = none /\ z54 Tryd.prog 115 = none /\ z4r Tryd.prog 115 = false /\ z1u Tryd.prog 115 = false /\ z3r Tryd.prog 115 = none /\ z00 Tryd.prog 115 = 2 /\ z0n Tryd.prog 115 = 24 /\ z18 Tryd.prog 115 = some [D.int .i64 0, D.str ByteArray.empty] /\ z0g Tryd.prog 115 = true := by refine ⟨?_, ?_, ?_, ?_, ?_, ?_, ?_, ?_, ?_, ?_, ?_, ?_⟩ <;> kernel_rfl
theorem zvy : z03 Tryd.prog 115 = true := ty115.1
theorem zzb : z00 Tryd.prog 115 = 2 := ty115.2.2.2.2.2.2.2.2.1
@[go_sem] theorem fieldsOK115 : z2t Tryd.prog 115 = true := by kernel_rfl
@[go_sem] theorem fieldT115_0 : z10 Tryd.prog 115 0 = some (0, 3) := by kernel_rfl
@[go_sem] theorem fieldT115_1 : z10 Tryd.prog 115 1 = some (1, 9) := by kernel_rfl
@[go_sem] theorem ty119 : z03 Tryd.prog 119 = true /\ z0p Tryd.prog 119 = false /\ z0v Tryd.prog 119 = none /\ z4v Tryd.prog 119 = none /\ z54 Tryd.prog 119 = none /\ z4r Tryd.prog 119 = false /\ z1u Tryd.prog 119 = false /\ z3r Tryd.prog 119 = none /\ z00 Tryd.prog 119 = 12 /\ z0n Tryd.prog 119 = 152 /\ z18 Tryd.prog 119 = some [D.int .i64 0, D.int .i64 0, D.int .i64 0, D.int .i64 0, D.int .i64 0, D.int .i64 0, D.int .i64 0, D.int .i64 0, D.str ByteArray.empty, D.nil, D.nil, D.nil] /\ z0g Tryd.prog 119 = true := by refine ⟨?_, ?_, ?_, ?_, ?_, ?_, ?_, ?_, ?_, ?_, ?_, ?_⟩ <;> kernel_rfl
@[go_sem] theorem fieldsOK119 : z2t Tryd.prog 119 = true := by kernel_rfl
@[go_sem] theorem fieldT119_0 : z10 Tryd.prog 119 0 = some (0, 23) := by kernel_rfl
@[go_sem] theorem fieldT119_1 : z10 Tryd.prog 119 1 = some (3, 3) := by kernel_rfl
@[go_sem] theorem fieldT119_2 : z10 Tryd.prog 119 2 = some (4, 27) := by kernel_rfl
@[go_sem] theorem ty123 : z03 Tryd.prog 123 = false /\ z0p Tryd.prog 123 = true /\ z0v Tryd.prog 123 = none /\ z4v Tryd.prog 123 = none /\ z54 Tryd.prog 123 = none /\ z4r Tryd.prog 123 = false /\ z1u Tryd.prog 123 = false /\ z3r Tryd.prog 123 = none /\ z00 Tryd.prog 123 = 1 /\ z0n Tryd.prog 123 = 8 /\ z18 Tryd.prog 123 = some [D.nfun] /\ z0g Tryd.prog 123 = true := by refine ⟨?_, ?_, ?_, ?_, ?_, ?_, ?_, ?_, ?_, ?_, ?_, ?_⟩ <;> kernel_rfl
@[go_sem] theorem ty125 : z03 Tryd.prog 125 = false /\ z0p Tryd.prog 125 = true /\ z0v Tryd.prog 125 = none /\ z4v Tryd.prog 125 = none /\ z54 Tryd.prog 125 = none /\ z4r Tryd.prog 125 = false /\ z1u Tryd.prog 125 = false /\ z3r Tryd.prog 125 = none /\ z00 Tryd.prog 125 = 1 /\ z0n Tryd.prog 125 = 8 /\ z18 Tryd.prog 125 = some [D.nfun] /\ z0g Tryd.prog 125 = true := by refine ⟨?_, ?_, ?_, ?_, ?_, ?_, ?_, ?_, ?_, ?_, ?_, ?_⟩ <;> kernel_rfl
theorem zvz : z03 Tryd.prog 125 = false := ty125.1
@[go_sem] theorem ty128 : z03 Tryd.prog 128 = true /\ z0p Tryd.prog 128 = false /\ z0v Tryd.prog 128 = none /\ z4v Tryd.prog 128 = some (8, 9) /\ z54 Tryd.prog 128 = none /\ z4r Tryd.prog 128 = false /\ z1u Tryd.prog 128 = false /\ z3r Tryd.prog 128 = none /\ z00 Tryd.prog 128 = 8 /\ z0n Tryd.prog 128 = 128 /\ z18 Tryd.prog 128 = some [D.str ByteArray.empty, D.str ByteArray.empty, D.str ByteArray.empty, D.str ByteArray.empty, D.str ByteArray.empty, D.str ByteArray.empty, D.str ByteArray.empty, D.str ByteArray.empty] /\ z0g Tryd.prog 128 = true := by refine ⟨?_, ?_, ?_, ?_, ?_, ?_, ?_, ?_, ?_, ?_, ?_, ?_⟩ <;> kernel_rfl
@[go_sem] theorem under128 : Tryd.prog.underlying 128 = some (.array 8 9) := by kernel_rfl
@[go_sem] theorem ty131 : z03 Tryd.prog 131 = false /\ z0p Tryd.prog 131 = true /\ z0v Tryd.prog 131 = none /\ z4v Tryd.prog 131 = none /\ z54 Tryd.prog 131 = none /\ z4r Tryd.prog 131 = false /\ z1u Tryd.prog 131 = false /\ z3r Tryd.prog 131 = none /\ z00 Tryd.prog 131 = 1 /\ z0n Tryd.prog 131 = 8 /\ z18 Tryd.prog 131 = some [D.nfun] /\ z0g Tryd.prog 131 = true := by refine ⟨?_, ?_, ?_, ?_, ?_, ?_, ?_, ?_, ?_, ?_, ?_, ?_⟩ <;> kernel_rfl
@[go_sem] theorem ty135 : z03 Tryd.prog 135 = true /\ z0p Tryd.prog 135 = false /\ z0v Tryd.prog 135 = none /\ z4v Tryd.prog 135 = some (8, 93) /\ z54 Tryd.prog 135 = none /\ z4r Tryd.prog 135 = false /\ z1u Tryd.prog 135 = false /\ z3r Tryd.prog 135 = none /\ z00 Tryd.prog 135 = 8 /\ z0n Tryd.prog 135 = 192 /\ z18 Tryd.prog 135 = some [D.nil, D.nil, D.nil, D.nil, D.nil, D.nil, D.nil, D.nil] /\ z0g Tryd.prog 135 = true := by refine ⟨?_, ?_, ?_, ?_, ?_, ?_, ?_, ?_, ?_, ?_, ?_, ?_⟩ <;> kernel_rfl
@[go_sem] theorem under135 : Tryd.prog.underlying 135 = some (.array 8 93) := by kernel_rfl
@[go_sem] theorem ty136 : z03 Tryd.prog 136 = false /\ z0p Tryd.prog 136 = true /\ z0v Tryd.prog 136 = none /\ z4v Tryd.prog 136 = none /\ z54 Tryd.prog 136 = none /\ z4r Tryd.prog 136 = false /\ z1u Tryd.prog 136 = false /\ z3r Tryd.prog 136 = none /\ z00 Tryd.prog 136 = 1 /\ z0n Tryd.prog 136 = 8 /\ z18 Tryd.prog 136 = some [D.nfun] /\ z0g Tryd.prog 136 = true := by refine ⟨?_, ?_, ?_, ?_, ?_, ?_, ?_, ?_, ?_, ?_, ?_, ?_⟩ <;> kernel_rfl
@[go_sem] theorem ty138 : z03 Tryd.prog 138 = false /\ z0p Tryd.prog 138 = true /\ z0v Tryd.prog 138 = some 79 /\ z4v Tryd.prog 138 = none /\ z54 Tryd.prog 138 = none /\ z4r Tryd.prog 138 = false /\ z1u Tryd.prog 138 = false /\ z3r Tryd.prog 138 = none /\ z00 Tryd.prog 138 = 1 /\ z0n Tryd.prog 138 = 24 /\ z18 Tryd.prog 138 = some [D.nil] /\ z0g Tryd.prog 138 = true := by refine ⟨?_, ?_, ?_, ?_, ?_, ?_, ?_, ?_, ?_, ?_, ?_, ?_⟩ <;> kernel_rfl
@[go_sem] theorem ty140 : z03 Tryd.prog 140 = false /\ z0p Tryd.prog 140 = true /\ z0v Tryd.prog 140 = none /\ z4v Tryd.prog 140 = none /\ z54 Tryd.prog 140 = none /\ z4r Tryd.prog 140 = false /\ z1u Tryd.prog 140 = false /\ z3r Tryd.prog 140 = none /\ z00 Tryd.prog 140 = 1 /\ z0n Tryd.prog 140 = 8 /\ z18 Tryd.prog 140 = some [D.nfun] /\ z0g Tryd.prog 140 = true := by refine ⟨?_, ?_, ?_, ?_, ?_, ?_, ?_, ?_, ?_, ?_, ?_, ?_⟩ <;> kernel_rfl
@[go_sem] theorem ty148 : z03 Tryd.prog 148 = false /\ z0p Tryd.prog 148 = true /\ z0v Tryd.prog 148 = none /\ z4v Tryd.prog 148 = none /\ z54 Tryd.prog 148 = none /\ z4r Tryd.prog 148 = false /\ z1u Tryd.prog 148 = false /\ z3r Tryd.prog 148 = none /\ z00 Tryd.prog 148 = 1 /\ z0n Tryd.prog 148 = 8 /\ z18 Tryd.prog 148 = some [D.nfun] /\ z0g Tryd.prog 148 = true := by refine ⟨?_, ?_, ?_, ?_, ?_, ?_, ?_, ?_, ?_, ?_, ?_, ?_⟩ <;> kernel_rfl
@[go_sem] theorem ty150 : z03 Tryd.prog 150 = false /\ z0p Tryd.prog 150 = true /\ z0v Tryd.prog 150 = some 5 /\ z4v Tryd.prog 150 = none /\ z54 Tryd.prog 150 = none /\ z4r Tryd.prog 150 = false /\ z1u Tryd.prog 150 = false /\ z3r Tryd.prog 150 = none /\ z00 Tryd.prog 150 = 1 /\ z0n Tryd.prog 150 = 24 /\ z18 Tryd.prog 150 = some [D.nil] /\ z0g Tryd.prog 150 = true := by refine ⟨?_, ?_, ?_, ?_, ?_, ?_, ?_, ?_, ?_, ?_, ?_, ?_⟩ <;> kernel_rfl
@[go_sem] theorem ptrT163 : ptrT Tryd.prog 163 = true := by kernel_rfl
@[go_sem] theorem zp9 : zpo Tryd.prog 23 = true := by kernel_rfl
@[go_sem] theorem zpa : zad Tryd.prog 3 = some (D.int .i64 0) := by kernel_rfl
@[go_sem] theorem zeroD27 : zad Tryd.prog 27 = some (.agg [D.int .i64 0, D.int .i64 0, D.int .i64 0, D.int .i64 0, D.str ByteArray.empty, D.nil, D.nil, D.nil]) := by kernel_rfl
@[go_sem] theorem zeroD4 : zad Tryd.prog 4 = some (D.bool false) := by kernel_rfl
@[go_sem] theorem zeroD33 : zad Tryd.prog 33 = some (.agg [D.int .i64 0, D.int .i64 0, D.int .i64 0, D.int .i64 0, D.int .i64 0, D.str ByteArray.empty, D.str ByteArray.empty, D.bool false, D.nil, D.nil, D.nil]) := by kernel_rfl
@[go_sem] theorem zeroD119 : zad Tryd.prog 119 = some (.agg [D.int .i64 0, D.int .i64 0, D.int .i64 0, D.int .i64 0, D.int .i64 0, D.int .i64 0, D.int .i64 0, D.int .i64 0, D.str ByteArray.empty, D.nil, D.nil, D.nil]) := by kernel_rfl
@[go_sem] theorem keyT115 : zpo Tryd.prog 115 = true := by kernel_rfl
theorem z2c {P : Program} {d : Nat} {t : TypeId} {fs : Array Field} {xs ys : List D} (hu : P.underlying t = some (.struct fs)) (hs : P.stoodInHeld t = false) : eqD P (d + 1) t (.agg xs) (.agg ys) = z1b (eqD P d) P xs ys fs.toList := by
 simp only [eqD, hu, hs, if_true]
theorem z6v {P : Program} {d : Nat} {t : TypeId} {k : IntKind} {a b : Int} (hu : P.underlying t = some (.int k)) : eqD P (d + 1) t (.int k a) (.int k b) = some (decide (a = b)) := by
 simp only [eqD, hu, if_true, Option.some.injEq]; by_cases h : a = b <;> simp [h]
theorem zcj {P : Program} {d : Nat} {t : TypeId} {a b : ByteArray} (hu : P.underlying t = some .string) : eqD P (d + 1) t (.str a) (.str b) = some (decide (a = b)) := by
 simp only [eqD, hu]
theorem zzc : Tryd.prog.eqGuardType Tryd.prog.depth 22 = false := by kernel_rfl
theorem eqT22 (d : Nat) (a0 b0 : Int) (a1 b1 : Int) (a2 b2 : Int) : eqD Tryd.prog (d + 2) 22 (.agg [.int .i64 a0, .int .i64 a1, .int .i64 a2]) (.agg [.int .i64 b0, .int .i64 b1, .int .i64 b2]) = some (decide (a0 = b0) && decide (a1 = b1) && decide (a2 = b2)) := by
 rw [z2c Tryd.underlying22 (by kernel_rfl)]
 simp only [z1b, z4h, List.getElem?_cons_zero, List.getElem?_cons_succ, List.drop_succ_cons, List.drop_zero, List.take_succ_cons, List.take_zero, List.length_cons, List.length_nil, Nat.reduceAdd, Nat.reduceLeDiff, if_true, if_false, Bool.false_eq_true, ne_eq, String.reduceEq, not_false_eq_true, decide_eq_true_eq, z2n, z6u, z52, z6v Tryd.underlying3]
 (repeat' split) <;> simp_all
@[go_sem] theorem eqU22 (a0 b0 : Int) (a1 b1 : Int) (a2 b2 : Int) : eqD Tryd.prog 8 22 (.agg [.int .i64 a0, .int .i64 a1, .int .i64 a2]) (.agg [.int .i64 b0, .int .i64 b1, .int .i64 b2]) = some (decide (a0 = b0) && decide (a1 = b1) && decide (a2 = b2)) := eqT22 6 a0 b0 a1 b1 a2 b2
attribute [go_sem] zzc
theorem zzd : Tryd.prog.eqGuardType Tryd.prog.depth 23 = false := by kernel_rfl
theorem eqT23 (d : Nat) (a0 b0 : Int) (a1 b1 : Int) (a2 b2 : Int) : eqD Tryd.prog (d + 2) 23 (.agg [.int .i64 a0, .int .i64 a1, .int .i64 a2]) (.agg [.int .i64 b0, .int .i64 b1, .int .i64 b2]) = some (decide (a0 = b0) && decide (a1 = b1) && decide (a2 = b2)) := by
 rw [z2c Tryd.underlying23 (by kernel_rfl)]
 simp only [z1b, z4h, List.getElem?_cons_zero, List.getElem?_cons_succ, List.drop_succ_cons, List.drop_zero, List.take_succ_cons, List.take_zero, List.length_cons, List.length_nil, Nat.reduceAdd, Nat.reduceLeDiff, if_true, if_false, Bool.false_eq_true, ne_eq, String.reduceEq, not_false_eq_true, decide_eq_true_eq, z2n, z6u, z52, z6v Tryd.underlying3]
 (repeat' split) <;> simp_all
@[go_sem] theorem eqU23 (a0 b0 : Int) (a1 b1 : Int) (a2 b2 : Int) : eqD Tryd.prog 8 23 (.agg [.int .i64 a0, .int .i64 a1, .int .i64 a2]) (.agg [.int .i64 b0, .int .i64 b1, .int .i64 b2]) = some (decide (a0 = b0) && decide (a1 = b1) && decide (a2 = b2)) := eqT23 6 a0 b0 a1 b1 a2 b2
attribute [go_sem] zzd
theorem zze : Tryd.prog.eqGuardType Tryd.prog.depth 52 = false := by kernel_rfl
theorem eqT52 (d : Nat) (a0 b0 : Int) (a1 b1 : ByteArray) : eqD Tryd.prog (d + 2) 52 (.agg [.int .i64 a0, .str a1]) (.agg [.int .i64 b0, .str b1]) = some (decide (a0 = b0) && decide (a1 = b1)) := by
 rw [z2c Tryd.underlying52 (by kernel_rfl)]
 simp only [z1b, z4h, List.getElem?_cons_zero, List.getElem?_cons_succ, List.drop_succ_cons, List.drop_zero, List.take_succ_cons, List.take_zero, List.length_cons, List.length_nil, Nat.reduceAdd, Nat.reduceLeDiff, if_true, if_false, Bool.false_eq_true, ne_eq, String.reduceEq, not_false_eq_true, decide_eq_true_eq, z2n, z6u, z52, z6v Tryd.underlying3, z8x, zci, zdb, zcj Tryd.underlying9]
 (repeat' split) <;> simp_all
@[go_sem] theorem eqU52 (a0 b0 : Int) (a1 b1 : ByteArray) : eqD Tryd.prog 8 52 (.agg [.int .i64 a0, .str a1]) (.agg [.int .i64 b0, .str b1]) = some (decide (a0 = b0) && decide (a1 = b1)) := eqT52 6 a0 b0 a1 b1
attribute [go_sem] zze
theorem zzf : Tryd.prog.eqGuardType Tryd.prog.depth 53 = false := by kernel_rfl
theorem eqT53 (d : Nat) (a0 b0 : Int) (a1 b1 : ByteArray) : eqD Tryd.prog (d + 2) 53 (.agg [.int .i64 a0, .str a1]) (.agg [.int .i64 b0, .str b1]) = some (decide (a0 = b0) && decide (a1 = b1)) := by
 rw [z2c Tryd.underlying53 (by kernel_rfl)]
 simp only [z1b, z4h, List.getElem?_cons_zero, List.getElem?_cons_succ, List.drop_succ_cons, List.drop_zero, List.take_succ_cons, List.take_zero, List.length_cons, List.length_nil, Nat.reduceAdd, Nat.reduceLeDiff, if_true, if_false, Bool.false_eq_true, ne_eq, String.reduceEq, not_false_eq_true, decide_eq_true_eq, z2n, z6u, z52, z6v Tryd.underlying3, z8x, zci, zdb, zcj Tryd.underlying9]
 (repeat' split) <;> simp_all
@[go_sem] theorem eqU53 (a0 b0 : Int) (a1 b1 : ByteArray) : eqD Tryd.prog 8 53 (.agg [.int .i64 a0, .str a1]) (.agg [.int .i64 b0, .str b1]) = some (decide (a0 = b0) && decide (a1 = b1)) := eqT53 6 a0 b0 a1 b1
attribute [go_sem] zzf
theorem zzg : Tryd.prog.eqGuardType Tryd.prog.depth 80 = false := by kernel_rfl
theorem eqT80 (d : Nat) (a0 b0 : Int) (a1 b1 : Int) (a2 b2 : Int) : eqD Tryd.prog (d + 2) 80 (.agg [.int .i64 a0, .int .i64 a1, .int .i64 a2]) (.agg [.int .i64 b0, .int .i64 b1, .int .i64 b2]) = some (decide (a0 = b0) && decide (a1 = b1) && decide (a2 = b2)) := by
 rw [z2c Tryd.underlying80 (by kernel_rfl)]
 simp only [z1b, z4h, List.getElem?_cons_zero, List.getElem?_cons_succ, List.drop_succ_cons, List.drop_zero, List.take_succ_cons, List.take_zero, List.length_cons, List.length_nil, Nat.reduceAdd, Nat.reduceLeDiff, if_true, if_false, Bool.false_eq_true, ne_eq, String.reduceEq, not_false_eq_true, decide_eq_true_eq, z2n, z6u, z52, z6v Tryd.underlying3]
 (repeat' split) <;> simp_all
@[go_sem] theorem eqU80 (a0 b0 : Int) (a1 b1 : Int) (a2 b2 : Int) : eqD Tryd.prog 8 80 (.agg [.int .i64 a0, .int .i64 a1, .int .i64 a2]) (.agg [.int .i64 b0, .int .i64 b1, .int .i64 b2]) = some (decide (a0 = b0) && decide (a1 = b1) && decide (a2 = b2)) := eqT80 6 a0 b0 a1 b1 a2 b2
attribute [go_sem] zzg
theorem zzh : Tryd.prog.eqGuardType Tryd.prog.depth 81 = false := by kernel_rfl
theorem eqT81 (d : Nat) (a0 b0 : Int) (a1 b1 : Int) (a2 b2 : Int) : eqD Tryd.prog (d + 2) 81 (.agg [.int .i64 a0, .int .i64 a1, .int .i64 a2]) (.agg [.int .i64 b0, .int .i64 b1, .int .i64 b2]) = some (decide (a0 = b0) && decide (a1 = b1) && decide (a2 = b2)) := by
 rw [z2c Tryd.underlying81 (by kernel_rfl)]
 simp only [z1b, z4h, List.getElem?_cons_zero, List.getElem?_cons_succ, List.drop_succ_cons, List.drop_zero, List.take_succ_cons, List.take_zero, List.length_cons, List.length_nil, Nat.reduceAdd, Nat.reduceLeDiff, if_true, if_false, Bool.false_eq_true, ne_eq, String.reduceEq, not_false_eq_true, decide_eq_true_eq, z2n, z6u, z52, z6v Tryd.underlying3]
 (repeat' split) <;> simp_all
@[go_sem] theorem eqU81 (a0 b0 : Int) (a1 b1 : Int) (a2 b2 : Int) : eqD Tryd.prog 8 81 (.agg [.int .i64 a0, .int .i64 a1, .int .i64 a2]) (.agg [.int .i64 b0, .int .i64 b1, .int .i64 b2]) = some (decide (a0 = b0) && decide (a1 = b1) && decide (a2 = b2)) := eqT81 6 a0 b0 a1 b1 a2 b2
attribute [go_sem] zzh
theorem zzi : Tryd.prog.eqGuardType Tryd.prog.depth 82 = false := by kernel_rfl
theorem eqT82 (d : Nat) (a0 b0 : ByteArray) (a1 b1 : Int) (a2 b2 : Int) (a3 b3 : Int) : eqD Tryd.prog (d + 3) 82 (.agg [.str a0, .int .i64 a1, .int .i64 a2, .int .i64 a3]) (.agg [.str b0, .int .i64 b1, .int .i64 b2, .int .i64 b3]) = some (decide (a0 = b0) && (decide (a1 = b1) && decide (a2 = b2) && decide (a3 = b3))) := by
 rw [z2c Tryd.underlying82 (by kernel_rfl)]
 simp only [z1b, z4h, List.getElem?_cons_zero, List.getElem?_cons_succ, List.drop_succ_cons, List.drop_zero, List.take_succ_cons, List.take_zero, List.length_cons, List.length_nil, Nat.reduceAdd, Nat.reduceLeDiff, if_true, if_false, Bool.false_eq_true, ne_eq, String.reduceEq, not_false_eq_true, decide_eq_true_eq, z8x, zci, zdb, zcj Tryd.underlying9, zp5, zp6, zvu, eqT81]
 (repeat' split) <;> simp_all
@[go_sem] theorem eqU82 (a0 b0 : ByteArray) (a1 b1 : Int) (a2 b2 : Int) (a3 b3 : Int) : eqD Tryd.prog 8 82 (.agg [.str a0, .int .i64 a1, .int .i64 a2, .int .i64 a3]) (.agg [.str b0, .int .i64 b1, .int .i64 b2, .int .i64 b3]) = some (decide (a0 = b0) && (decide (a1 = b1) && decide (a2 = b2) && decide (a3 = b3))) := eqT82 5 a0 b0 a1 b1 a2 b2 a3 b3
attribute [go_sem] zzi
theorem zzj : Tryd.prog.eqGuardType Tryd.prog.depth 83 = false := by kernel_rfl
theorem eqT83 (d : Nat) (a0 b0 : ByteArray) (a1 b1 : Int) (a2 b2 : Int) (a3 b3 : Int) : eqD Tryd.prog (d + 3) 83 (.agg [.str a0, .int .i64 a1, .int .i64 a2, .int .i64 a3]) (.agg [.str b0, .int .i64 b1, .int .i64 b2, .int .i64 b3]) = some (decide (a0 = b0) && (decide (a1 = b1) && decide (a2 = b2) && decide (a3 = b3))) := by
 rw [z2c Tryd.underlying83 (by kernel_rfl)]
 simp only [z1b, z4h, List.getElem?_cons_zero, List.getElem?_cons_succ, List.drop_succ_cons, List.drop_zero, List.take_succ_cons, List.take_zero, List.length_cons, List.length_nil, Nat.reduceAdd, Nat.reduceLeDiff, if_true, if_false, Bool.false_eq_true, ne_eq, String.reduceEq, not_false_eq_true, decide_eq_true_eq, z8x, zci, zdb, zcj Tryd.underlying9, zp5, zp6, zvu, eqT81]
 (repeat' split) <;> simp_all
@[go_sem] theorem eqU83 (a0 b0 : ByteArray) (a1 b1 : Int) (a2 b2 : Int) (a3 b3 : Int) : eqD Tryd.prog 8 83 (.agg [.str a0, .int .i64 a1, .int .i64 a2, .int .i64 a3]) (.agg [.str b0, .int .i64 b1, .int .i64 b2, .int .i64 b3]) = some (decide (a0 = b0) && (decide (a1 = b1) && decide (a2 = b2) && decide (a3 = b3))) := eqT83 5 a0 b0 a1 b1 a2 b2 a3 b3
attribute [go_sem] zzj
theorem zzk : Tryd.prog.eqGuardType Tryd.prog.depth 89 = false := by kernel_rfl
theorem eqT89 (d : Nat) (a0 b0 : Int) (a1 b1 : Int) : eqD Tryd.prog (d + 2) 89 (.agg [.int .i64 a0, .int .i64 a1]) (.agg [.int .i64 b0, .int .i64 b1]) = some (decide (a0 = b0) && decide (a1 = b1)) := by
 rw [z2c Tryd.underlying89 (by kernel_rfl)]
 simp only [z1b, z4h, List.getElem?_cons_zero, List.getElem?_cons_succ, List.drop_succ_cons, List.drop_zero, List.take_succ_cons, List.take_zero, List.length_cons, List.length_nil, Nat.reduceAdd, Nat.reduceLeDiff, if_true, if_false, Bool.false_eq_true, ne_eq, String.reduceEq, not_false_eq_true, decide_eq_true_eq, z2n, z6u, z52, z6v Tryd.underlying3]
 (repeat' split) <;> simp_all
@[go_sem] theorem eqU89 (a0 b0 : Int) (a1 b1 : Int) : eqD Tryd.prog 8 89 (.agg [.int .i64 a0, .int .i64 a1]) (.agg [.int .i64 b0, .int .i64 b1]) = some (decide (a0 = b0) && decide (a1 = b1)) := eqT89 6 a0 b0 a1 b1
attribute [go_sem] zzk
theorem zzl : Tryd.prog.eqGuardType Tryd.prog.depth 90 = false := by kernel_rfl
theorem eqT90 (d : Nat) (a0 b0 : Int) (a1 b1 : Int) : eqD Tryd.prog (d + 2) 90 (.agg [.int .i64 a0, .int .i64 a1]) (.agg [.int .i64 b0, .int .i64 b1]) = some (decide (a0 = b0) && decide (a1 = b1)) := by
 rw [z2c Tryd.underlying90 (by kernel_rfl)]
 simp only [z1b, z4h, List.getElem?_cons_zero, List.getElem?_cons_succ, List.drop_succ_cons, List.drop_zero, List.take_succ_cons, List.take_zero, List.length_cons, List.length_nil, Nat.reduceAdd, Nat.reduceLeDiff, if_true, if_false, Bool.false_eq_true, ne_eq, String.reduceEq, not_false_eq_true, decide_eq_true_eq, z2n, z6u, z52, z6v Tryd.underlying3]
 (repeat' split) <;> simp_all
@[go_sem] theorem eqU90 (a0 b0 : Int) (a1 b1 : Int) : eqD Tryd.prog 8 90 (.agg [.int .i64 a0, .int .i64 a1]) (.agg [.int .i64 b0, .int .i64 b1]) = some (decide (a0 = b0) && decide (a1 = b1)) := eqT90 6 a0 b0 a1 b1
attribute [go_sem] zzl
theorem zw0 : Tryd.prog.eqGuardType Tryd.prog.depth 114 = false := by kernel_rfl
theorem eqT114 (d : Nat) (a0 b0 : Int) (a1 b1 : ByteArray) : eqD Tryd.prog (d + 2) 114 (.agg [.int .i64 a0, .str a1]) (.agg [.int .i64 b0, .str b1]) = some (decide (a0 = b0) && decide (a1 = b1)) := by
 rw [z2c Tryd.underlying114 (by kernel_rfl)]
 simp only [z1b, z4h, List.getElem?_cons_zero, List.getElem?_cons_succ, List.drop_succ_cons, List.drop_zero, List.take_succ_cons, List.take_zero, List.length_cons, List.length_nil, Nat.reduceAdd, Nat.reduceLeDiff, if_true, if_false, Bool.false_eq_true, ne_eq, String.reduceEq, not_false_eq_true, decide_eq_true_eq, z2n, z6u, z52, z6v Tryd.underlying3, z8x, zci, zdb, zcj Tryd.underlying9]
 (repeat' split) <;> simp_all
@[go_sem] theorem eqU114 (a0 b0 : Int) (a1 b1 : ByteArray) : eqD Tryd.prog 8 114 (.agg [.int .i64 a0, .str a1]) (.agg [.int .i64 b0, .str b1]) = some (decide (a0 = b0) && decide (a1 = b1)) := eqT114 6 a0 b0 a1 b1
attribute [go_sem] zw0
theorem zw1 : Tryd.prog.eqGuardType Tryd.prog.depth 115 = false := by kernel_rfl
theorem eqT115 (d : Nat) (a0 b0 : Int) (a1 b1 : ByteArray) : eqD Tryd.prog (d + 2) 115 (.agg [.int .i64 a0, .str a1]) (.agg [.int .i64 b0, .str b1]) = some (decide (a0 = b0) && decide (a1 = b1)) := by
 rw [z2c Tryd.underlying115 (by kernel_rfl)]
 simp only [z1b, z4h, List.getElem?_cons_zero, List.getElem?_cons_succ, List.drop_succ_cons, List.drop_zero, List.take_succ_cons, List.take_zero, List.length_cons, List.length_nil, Nat.reduceAdd, Nat.reduceLeDiff, if_true, if_false, Bool.false_eq_true, ne_eq, String.reduceEq, not_false_eq_true, decide_eq_true_eq, z2n, z6u, z52, z6v Tryd.underlying3, z8x, zci, zdb, zcj Tryd.underlying9]
 (repeat' split) <;> simp_all
@[go_sem] theorem eqU115 (a0 b0 : Int) (a1 b1 : ByteArray) : eqD Tryd.prog 8 115 (.agg [.int .i64 a0, .str a1]) (.agg [.int .i64 b0, .str b1]) = some (decide (a0 = b0) && decide (a1 = b1)) := eqT115 6 a0 b0 a1 b1
attribute [go_sem] zw1
theorem z1v : Tryd.prog.follows .mixedOrders = true := by kernel_rfl

/-- A contract out of a walk, its decisions in one. -/
theorem z30 (own : List Nat) {f : FuncId} {fn : Func} {c : Code} (hf : Tryd.prog.funcs[f]? = some fn) (hb : fn.body = some c) (hh : (fn.name == "runtime.NumGoroutine") = false /\ z66 fn.ntmps c = true)
    {ds : List D} {H : HM} {nx : Nat} {K : D -> HM -> Nat -> Prop} (hds : Nat.ble ds.length fn.ntmps = true) (h : awp Tryd.prog own c (retQ Tryd.prog fn.results.toList K) (st0 ds H nx)) : AC Tryd.prog f ds H nx K :=
  zqze own hf hb hh.1 z1v hh.2 (Nat.le_of_ble_eq_true hds) h
end Go.Proofs.YtfechgagcgbldaaDoor.Facts
namespace Go.Proofs.YtfechgagcgbldaaDoor.Abs
open Go.RowKit Go.ChangeShapes Facts
def zq7 (P : Program) : Nat -> TypeId -> DataW Unit -> Option (List D)
 | 0, _, _ => none
 | n + 1, t, d => match P.underlying t, d with
  | some .string, .lit (.string l) => some [.str ⟨l.toArray⟩]
  | some (.int k), .lit (.int _ i) => some [.int k i]
  | some (.slice _), .nil => some [.nil]
  | some (.slice e), .slice ds _ => (ds.mapM (zq7 P n e)).map fun parts => [.rsl true (z00 P e) (parts.map (elD (z03 P e)))]
  | some (.array m e), .agg ds => if P.cellsOf t = m * P.cellsOf e then (ds.mapM (zq7 P n e)).map List.flatten else none
  | _, _ => none
section
variable {P : Program} {W : World} {base : Nat} {spare : Nat -> Bool} {held : Bool}
theorem zq8 : ∀ (n : Nat) (m : Nat) (t : TypeId) (cs : List Value) (d : DataW Unit) (p : List MemPlace) (ds : List D), DataW.trod (fun _ => ()) P W base spare held m t cs = some (d, p) -> zq7 P n t d = some ds ->
  relAll (z7o W) ds cs /\ z69 cs /\ (z03 P t = false -> ∃ c d', cs = [c] /\ ds = [d']) := by
 intro n
 induction n with
 | zero => intro m t cs d p ds _ h; simp [zq7] at h
 | succ n ih =>
  intro m t cs d p ds ht h
  unfold zq7 at h
  split at h
  ·rename_i l hu
   simp only [Option.some.injEq] at h
   subst h
   obtain ⟨s, rfl, hx, _⟩ := DataW.trod_string hu ht
   simp only [Prod.mk.injEq, DataW.lit.injEq, Lit.string.injEq] at hx
   obtain ⟨rfl, _⟩ := hx
   obtain ⟨h1, h2⟩ := z5j (W := W) (d := .str ⟨s.data.toList.toArray⟩) (v := .string s) (by simp only [rel]) rfl
   exact ⟨h1, h2, fun _ => ⟨_, _, rfl, rfl⟩⟩
  ·rename_i k k' i hu
   simp only [Option.some.injEq] at h
   subst h
   obtain ⟨i', rfl, hx, _⟩ := DataW.trod_int hu ht
   simp only [Prod.mk.injEq, DataW.lit.injEq, Lit.int.injEq] at hx
   obtain ⟨⟨_, rfl⟩, _⟩ := hx
   obtain ⟨h1, h2⟩ := z5j (W := W) (d := .int k i) (v := .int k i) (by simp [rel]) rfl
   exact ⟨h1, h2, fun _ => ⟨_, _, rfl, rfl⟩⟩
  ·rename_i e hu
   simp only [Option.some.injEq] at h
   subst h
   rcases DataW.trod_slice hu ht with ⟨rfl, _⟩ | ⟨_, _, _, _, _, _, _, _, hx, _⟩
   ·obtain ⟨h1, h2⟩ := z5j (W := W) (d := .nil) (v := .slice none 0 0) (by simp [rel]) rfl
    exact ⟨h1, h2, fun _ => ⟨_, _, rfl, rfl⟩⟩
   ·simp at hx
  ·rename_i e dl sp hu
   rcases DataW.trod_slice hu ht with ⟨_, hx⟩ | ⟨a, len, cap, elems, rest, m, hm, rfl, hx, _, hl, hcm, hlen, hel, _⟩
   ·simp at hx
   simp only [Prod.mk.injEq, DataW.slice.injEq] at hx
   obtain ⟨⟨rfl, _⟩, _⟩ := hx
   simp only [Option.map_eq_some_iff] at h
   obtain ⟨parts, hparts, rfl⟩ := h
   have hpl : parts.length = len := by
    have := mapM_some_length hparts
    simpa [hlen] using this
   have each : ∀ i : _root_.Fin len, ∃ p : List Value × List D, parts[i.1]? = some p.2 /\ W.cells? base (a.add (i * P.cellsOf e)) (P.cellsOf e) = some p.1 /\ relAll (z7o W) p.2 p.1 /\ z69 p.1 /\ (z03 P e = false -> ∃ c d, p.1 = [c] /\ p.2 = [d]) := by
    intro i
    have hi := hel i i.2
    rw [List.getElem?_eq_getElem (by omega), Option.bind_eq_some_iff] at hi
    obtain ⟨cs', h1, h2⟩ := hi
    have hg := mapM_some_get hparts i.1 (elems[i.1]'(by omega)).1 (by rw [List.getElem?_map, List.getElem?_eq_getElem (by omega)]; rfl)
    rw [List.getElem?_eq_getElem (by omega)] at hg
    obtain ⟨k1, k2, k4⟩ := ih _ e cs' _ _ _ h2 hg
    exact ⟨(cs', parts[i.1]'(by omega)), List.getElem?_eq_getElem (by omega), h1, k1, k2, k4⟩
   obtain ⟨f, hf⟩ := Classical.axiomOfChoice each
   have hag : ∀ i, rel (z7o W) (elD (z03 P e) (f i).2) (elV (z03 P e) (f i).1) /\ (elV (z03 P e) (f i).1).cells.toList = (f i).1 := by
    intro i
    obtain ⟨_, h1, h2, h3, h5⟩ := hf i
    cases hag : z03 P e with
    | true =>
     simp only [elD, elV, if_true, Value.cells]
     exact ⟨by simp only [rel]; exact ⟨_, rfl, h2, h3⟩, trivial⟩
    | false =>
     obtain ⟨c, d, hc1, hd1⟩ := h5 hag
     rw [hc1, hd1] at h2
     rw [hc1] at h3
     simp only [elD, elV, hc1, hd1, Bool.false_eq_true, if_false, List.getElem?_cons_zero, Option.getD_some]
     simp only [relAll] at h2
     obtain ⟨v, r, hv, hrel, hr⟩ := h2
     simp only [List.cons.injEq] at hv
     obtain ⟨rfl, rfl⟩ := hv
     refine ⟨hrel, ?_⟩
     rw [z21 (h3 c (by simp))]
   have hsz : z00 P e = P.cellsOf e := rfl
   obtain ⟨h1, h2⟩ := z5j (W := W) (d := .rsl true (z00 P e) (parts.map (elD (z03 P e)))) (v := .slice (some a) len cap) (by
    simp only [rel]
    refine .inr ⟨a, cap, List.ofFn fun i => elV (z03 P e) (f i).1, by simp [hpl], by simpa [hpl] using hl, hcm, z40 (by simp [hpl]) (fun i d v V hv => ?_), fun i v hv => ?_⟩
    ·simp only [List.getElem?_map, List.getElem?_ofFn] at V hv
     split at hv
     ·rename_i hi
      rw [(hf ⟨i, hi⟩).1] at V
      simp only [Option.map_some, Option.some.injEq] at V hv
      subst V; subst hv
      exact (hag ⟨i, hi⟩).1
     ·cases hv
    ·simp only [List.getElem?_ofFn] at hv
     split at hv
     ·rename_i hi
      simp only [Option.some.injEq] at hv
      subst hv
      obtain ⟨_, g1, _⟩ := hf ⟨i, hi⟩
      obtain ⟨_, g2, g3⟩ := World.cells?_some g1
      have g4 := (hag ⟨i, hi⟩).2
      refine ⟨by rw [<- Array.length_toList, g4, g2, hsz], fun j c hj => ?_⟩
      rw [g4] at hj
      have hjl : j < P.cellsOf e := by rw [<- g2]; exact (List.getElem?_eq_some_iff.1 hj).1
      have := g3 j hjl
      rw [hj] at this
      exact this
     ·cases hv) rfl
   exact ⟨h1, h2, fun _ => ⟨_, _, rfl, rfl⟩⟩
  ·rename_i m' e dl hu
   split at h
   ·rename_i hc
    obtain ⟨xs, m1, hm, hx, hcl, hxl, hxe⟩ := DataW.trod_array hu ht
    simp only [Prod.mk.injEq, DataW.agg.injEq] at hx
    obtain ⟨rfl, _⟩ := hx
    simp only [Option.map_eq_some_iff] at h
    obtain ⟨parts, hparts, rfl⟩ := h
    have hpl : parts.length = m' := by
     have := mapM_some_length hparts
     simpa [hxl] using this
    have key : ∀ k, k <= m' -> relAll (z7o W) (parts.take k).flatten (cs.take (k * P.cellsOf e)) /\ z69 (cs.take (k * P.cellsOf e)) := by
     intro k
     induction k with
     | zero => intro _; simp only [List.take_zero, List.flatten_nil, Nat.zero_mul]; exact ⟨z0f, zhx⟩
     | succ k ihk =>
      intro O
      obtain ⟨q1, q2⟩ := ihk (by omega)
      have hi := hxe k (by omega)
      rw [List.getElem?_eq_getElem (by omega)] at hi
      have hg := mapM_some_get hparts k (xs[k]'(by omega)).1 (by rw [List.getElem?_map, List.getElem?_eq_getElem (by omega)]; rfl)
      rw [List.getElem?_eq_getElem (by omega)] at hg
      obtain ⟨k1, k2, _⟩ := ih _ e _ _ _ _ hi hg
      rw [List.take_succ_eq_append_getElem (by omega), List.flatten_append, Nat.add_mul, Nat.one_mul, List.take_add]
      simp only [List.flatten_cons, List.flatten_nil, List.append_nil]
      exact ⟨z1d q1 k1, z5w q2 k2⟩
    obtain ⟨q1, q2⟩ := key m' (Nat.le_refl _)
    rw [List.take_of_length_le (by omega), List.take_of_length_le (by omega)] at q1
    rw [List.take_of_length_le (by omega)] at q2
    refine ⟨q1, q2, fun hag => ?_⟩
    simp only [z03, hu] at hag
    cases hag
   ·cases h
  ·cases h
theorem zkc {g : Nat} {nm : String} {t : TypeId} {cs : Array Value} {fuel : Nat} {d : DataW Unit} {p : List MemPlace} {ds : List D} (hg : P.globalNamed nm = some g) (hv : W.var? P nm = some cs)
  (V : DataW.trod (fun _ => ()) P W 0 (fun _ => true) false fuel t cs.toList = some (d, p)) (hr : zq7 P 4 t d = some ds) : rel (z7o W) (.rptr (.agg ds)) (.pointer (some ⟨g, 0, none⟩)) := by
 obtain ⟨h1, h2, _⟩ := zq8 4 fuel t cs.toList d p ds V hr
 simp only [rel]
 refine ⟨_, .agg cs, rfl, ⟨cs.toList, by simp, h1, h2⟩, fun j c hj => ?_⟩
 have := World.var?_cell hg hv j
 rw [z0s, Nat.zero_add]
 show W.cell? _ = _
 rw [this]
 simpa [Value.cells] using hj
end
end Go.Proofs.YtfechgagcgbldaaDoor.Abs
namespace Go.Proofs.YtfechgagcgbldaaDoor
open Abs Facts Go.RowKit Go.ChangeShapes Go.WideShapes Go.ChangeAt Go.WideMaps Go.WideElems
namespace Glue
def laidList : List (String × DataW Unit) := [("pandect/unit.names", Rows.laid_pandect_unit_names), ("pandect/unit.below", Rows.laid_pandect_unit_below)]
theorem gNames : Tryd.prog.globalNamed "pandect/unit.names" = some 0 := by kernel_rfl
theorem gBelow : Tryd.prog.globalNamed "pandect/unit.below" = some 1 := by kernel_rfl
theorem tNames : (Tryd.prog.globals[0]?).map (·.type) = some 128 := by kernel_rfl
theorem tBelow : (Tryd.prog.globals[1]?).map (·.type) = some 135 := by kernel_rfl
theorem door_met (os : Os) (args : Array Value) : laidMetH Tryd.prog laidList ((World.doorLaid Tryd.prog 400 os).forCall (fun _ _ => 0) ⟨#[], args, []⟩).memory :=
 laidMetH_of_parts3 (fuel := 8) (laidMet_of_run' 8 (by kernel_rfl) (by kernel_rfl)) (by kernel_rfl) (by kernel_rfl)
theorem globOK_laid {W : World} (h : laidMetH Tryd.prog laidList W) : zth W := by
 rw [MakeChecks.laidMetH_plain _ _ _ (by kernel_rfl)] at h
 obtain ⟨ps, ⟨g0, t0, cs0, f0, p0, q0, hg0, ht0, hv0, hd0, ⟨g1, t1, cs1, f1, p1, q1, hg1, ht1, hv1, hd1, _, _⟩, _⟩, _, _⟩ := h
 obtain rfl := Option.some.inj (gNames.symm.trans hg0)
 obtain rfl := Option.some.inj (gBelow.symm.trans hg1)
 obtain rfl := Option.some.inj (tNames.symm.trans ht0)
 obtain rfl := Option.some.inj (tBelow.symm.trans ht1)
 have r0 : rel (z7o W) (globD 0) (.pointer (some ⟨0, 0, none⟩)) := zkc hg0 hv0 hd0 (by kernel_rfl)
 have r1 : rel (z7o W) (globD 1) (.pointer (some ⟨1, 0, none⟩)) := zkc hg1 hv1 hd1 (by kernel_rfl)
 intro g
 match g with
 | 0 => first | exact r0 | exact r1
 | 1 => first | exact r0 | exact r1
 | n + 2 => simp only [globD, rel]
end Glue
end Go.Proofs.YtfechgagcgbldaaDoor
namespace Go.Proofs.YtfechgagcgbldaaDoor
section
open Abs
namespace Tr
structure Idv where
 act : Int
 item : Int
 n : Int
instance : DecidableEq Idv := fun a b => decidable_of_iff (a.act = b.act /\ a.item = b.item /\ a.n = b.n) ⟨fun ⟨h1, h2, h3⟩ => by cases a; cases b; simp_all, fun h => by subst h; exact ⟨rfl, rfl, rfl⟩⟩
def Idv.zero : Idv := ⟨0, 0, 0⟩
structure Wd where
 text : ByteArray
 by_ : Idv
instance : DecidableEq Wd := fun a b => decidable_of_iff (a.text = b.text /\ a.by_ = b.by_) ⟨fun ⟨h1, h2⟩ => by cases a; cases b; simp_all, fun h => by subst h; exact ⟨rfl, rfl⟩⟩
inductive T where
 | mk (id : Idv) (kind : Int) (label : ByteArray) (head words : List Wd) (kids : List T)
def T.id : T -> Idv | .mk i _ _ _ _ _ => i
def T.kind : T -> Int | .mk _ k _ _ _ _ => k
def T.label : T -> ByteArray | .mk _ _ l _ _ _ => l
def T.head : T -> List Wd | .mk _ _ _ h _ _ => h
def T.words : T -> List Wd | .mk _ _ _ _ w _ => w
def T.kids : T -> List T | .mk _ _ _ _ _ k => k
theorem T.eta (t : T) : T.mk t.id t.kind t.label t.head t.words t.kids = t := by cases t; rfl
mutual
theorem z53 {p : T -> Prop} (h : ∀ t, (∀ k ∈ t.kids, p k) -> p t) : ∀ t, p t
 | .mk i k l a b ks => h (.mk i k l a b ks) (ind2 h ks)
theorem ind2 {p : T -> Prop} (h : ∀ t, (∀ k ∈ t.kids, p k) -> p t) : ∀ (ks : List T), ∀ k ∈ ks, p k
 | [], k, O => by cases O
 | t :: ts, k, O => by
  rcases List.mem_cons.1 O with e | O
  ·rw [e]; exact z53 h t
  ·exact ind2 h ts k O
end
mutual
def zg6 {β : Type} (f : T -> List β -> β) : T -> β
 | .mk i k l a b ks => f (.mk i k l a b ks) (recL f ks)
def recL {β : Type} (f : T -> List β -> β) : List T -> List β
 | [] => []
 | t :: ts => zg6 f t :: recL f ts
end
theorem zvm {β : Type} (f : T -> List β -> β) : ∀ ks, recL f ks = ks.map (zg6 f)
 | [] => rfl
 | t :: ts => by simp [recL, zvm f ts]
theorem z3m {β : Type} (f : T -> List β -> β) (t : T) : zg6 f t = f t (t.kids.map (zg6 f)) := by
 cases t with
 | mk i k l a b ks => rw [zg6, zvm]; rfl
end Tr
namespace Abs
open Tr
def cellsId (i : Idv) : List D := [.int .i64 i.act, .int .i64 i.item, .int .i64 i.n]
def z3a (i : Idv) : D := .agg (cellsId i)
def z0m (l : List Idv) : D := .rsl false 3 (l.map z3a)
def zch (w : Wd) : List D := [.str w.text, .int .i64 w.by_.act, .int .i64 w.by_.item, .int .i64 w.by_.n]
def encWd (w : Wd) : D := .agg (zch w)
def z2g (l : List Wd) : D := .rsl false 4 (l.map encWd)
def zvn (t : T) (ks : List (List D)) : List D := [.int .i64 t.id.act, .int .i64 t.id.item, .int .i64 t.id.n, .int .i64 t.kind, .str t.label, z2g t.head, z2g t.words, .rsl false 8 (ks.map .agg)]
def z04 (t : T) : List D := zg6 zvn t
def z1o (t : T) : D := .agg (z04 t)
def z0l (l : List T) : D := .rsl false 8 (l.map z1o)
theorem z0t (t : T) : z04 t = [.int .i64 t.id.act, .int .i64 t.id.item, .int .i64 t.id.n, .int .i64 t.kind, .str t.label, z2g t.head, z2g t.words, z0l t.kids] := by
 unfold z04
 rw [z3m, zvn, List.map_map]; rfl
@[go_sem] theorem z5i (t : T) : (z04 t).length = 8 := by rw [z0t]; rfl
@[go_sem] theorem cellsU_kind (t : T) : (z04 t)[3]? = some (.int .i64 t.kind) := by rw [z0t]; rfl
@[go_sem] theorem cellsU_label (t : T) : (z04 t)[4]? = some (.str t.label) := by rw [z0t]; rfl
@[go_sem] theorem cellsU_head (t : T) : (z04 t)[5]? = some (z2g t.head) := by rw [z0t]; rfl
@[go_sem] theorem cellsU_words (t : T) : (z04 t)[6]? = some (z2g t.words) := by rw [z0t]; rfl
@[go_sem] theorem cellsU_kids (t : T) : (z04 t)[7]? = some (z0l t.kids) := by rw [z0t]; rfl
@[go_sem] theorem cellsU_id (t : T) : List.take 3 (z04 t) = [.int .i64 t.id.act, .int .i64 t.id.item, .int .i64 t.id.n] := by rw [z0t]; rfl
@[go_sem] theorem cellsU_take (t : T) : List.take 8 (z04 t) = z04 t := List.take_of_length_le (by rw [z5i]; exact Nat.le_refl _)
@[go_sem] theorem zz5 (a b c d e f g h : D) (t : T) : z1a [a, b, c, d, e, f, g, h] 0 (z04 t) = z04 t := by
 rw [z0t]; rfl
@[go_sem] theorem zz6 (t : T) : z1o t = .agg (z04 t) := rfl
@[go_sem] theorem encWd_agg (w : Wd) : encWd w = .agg [.str w.text, .int .i64 w.by_.act, .int .i64 w.by_.item, .int .i64 w.by_.n] := rfl
@[go_sem] theorem encId_agg (i : Idv) : z3a i = .agg [.int .i64 i.act, .int .i64 i.item, .int .i64 i.n] := rfl
theorem z24 (l : List Wd) : pureD (z2g l) = true := by simp only [z2g, pureD]; exact z0a (fun _ => rfl) l
theorem z3w (l : List Idv) : pureD (z0m l) = true := by simp only [z0m, pureD]; exact z0a (fun _ => rfl) l
theorem zp1 {f : T -> D} : ∀ {l : List T}, (∀ t ∈ l, pureD (f t) = true) -> pureD.pureL (l.map f) = true
 | [], _ => rfl
 | t :: l, h => by
  simp only [List.map_cons, pureD.pureL, Bool.and_eq_true]
  exact ⟨h t (by simp), zp1 fun k O => h k (List.mem_cons_of_mem _ O)⟩
theorem z0h : ∀ t, pureD (z1o t) = true := by
 refine z53 fun t ih => ?_
 rw [z1o, z0t]
 have O : pureD (z0l t.kids) = true := by simp only [z0l, pureD]; exact zp1 ih
 simp only [pureD, pureD.pureL, Bool.true_and, Bool.and_true, z24, O]
theorem z1z (t : T) : pureD.pureL (z04 t) = true := by have := z0h t; simpa only [z1o, pureD] using this
theorem z5q (l : List T) : pureD (z0l l) = true := by simp only [z0l, pureD]; exact z0a z0h l
@[go_sem] theorem pureL_encU (l : List T) : pureD.pureL (l.map z1o) = true := z0a z0h l
@[go_sem] theorem pureL_encWd (l : List Wd) : pureD.pureL (l.map encWd) = true := z0a (fun _ => rfl) l
@[go_sem] theorem pureL_encId (l : List Idv) : pureD.pureL (l.map z3a) = true := z0a (fun _ => rfl) l
attribute [go_sem] z1z
@[go_sem] theorem idEq (i j : Idv) : (decide (i.act = j.act) && (decide (i.item = j.item) && decide (i.n = j.n))) = decide (i = j) := by
 obtain ⟨a, b, c⟩ := i; obtain ⟨a', b', c'⟩ := j
 rw [Bool.eq_iff_iff]; simp [Idv.mk.injEq]
@[go_sem] theorem idEq' (i j : Idv) : (decide (i.act = j.act) && decide (i.item = j.item) && decide (i.n = j.n)) = decide (i = j) := by rw [Bool.and_assoc, idEq]
@[go_sem] theorem idZ (i : Idv) : (decide (i.act = 0) && (decide (i.item = 0) && decide (i.n = 0))) = decide (i = Idv.zero) := idEq i Idv.zero
@[go_sem] theorem idZ' (i : Idv) : (decide (i.act = 0) && decide (i.item = 0) && decide (i.n = 0)) = decide (i = Idv.zero) := idEq' i Idv.zero
@[go_sem] theorem wdEq (u v : Wd) : (decide (u.text = v.text) && decide (u.by_ = v.by_)) = decide (u = v) := by
 obtain ⟨a, b⟩ := u; obtain ⟨a', b'⟩ := v
 rw [Bool.eq_iff_iff]; simp [Wd.mk.injEq]
end Abs
end
open _root_.Go.Proofs.Tryd
section
open Abs Facts Tr
attribute [local irreducible] awp
namespace Tr
def z8k (l : List Wd) : Bool := l.all (fun w => decide (w.text.size <= 100)) && decide (l.length <= 300)
def zf8 (t : T) : Bool := zg6 (fun t l => decide (t.label.size <= 30) && (z8k t.head && (z8k t.words && l.all id))) t
theorem zkq (t : T) : zf8 t = (decide (t.label.size <= 30) && (z8k t.head && (z8k t.words && t.kids.all zf8))) := by
 unfold zf8
 rw [z3m, List.all_map]; rfl
theorem zug {α : Type} {f : α -> Bool} {l : List α} {k : Nat} (O : k < l.length) (h : f l[k] = false) : l.all f = false := List.all_eq_false.2 ⟨_, List.getElem_mem O, by simp [h]⟩
theorem zio {α : Type} {f : α -> Bool} {l : List α} {k : Nat} (O : k < l.length) (h : (l.take k).all f = true) (h2 : f l[k] = true) : (l.take (k + 1)).all f = true := by
 rw [List.take_succ_eq_append_getElem O, List.all_append, h, List.all_cons, h2]; rfl
theorem ziq {α : Type} {f : α -> Bool} {l : List α} {k : Nat} (O : ¬ k < l.length) (h : (l.take k).all f = true) : l.all f = true := by rwa [List.take_of_length_le (by omega)] at h
end Tr
theorem zoi (l : List Wd) (hl : l.length <= maxLen) : PC prog 50 [z2g l] (.bool (z8k l)) := by
 unfold maxLen at hl
 refine z3q 1 (by simp only [pureD.pureL, z24, Bool.and_self]) rfl (z30 [] func50 rfl (by decide +kernel) rfl ?_)
 show awp _ _ (Code.seq _ _) _ _
 repeat' (first | refine nxt ?_ | ((refine zqh fun K hK => ?_); (simp (disch := omega) only [go_sem, z2g])) | (refine hK _ ?_; clear hK K))
 (refine z6x (fun U st => ∃ (k : _), U = l.length - k /\ st.t 0 = z2g l /\ st.t 3 = .int .i64 k /\ (k <= l.length) /\ ((l.take k).all (fun w => decide (w.text.size <= 100)) = true)) ?_ ?_); rotate_left; (rintro U st ⟨k, rfl, s0, s3, sp0, sp1⟩); rotate_left
 ·(refine ⟨_, 0, rfl, ?_⟩); (simp (disch := omega) only [go_sem, Nat.reduceBEq, true_and, Int.natCast_zero, z2g])
  try simp
 repeat' (first | refine nxt ?_ | ((first | refine zqh fun K hK => ?_ | refine zqr fun K hK => ?_); (simp (disch := omega) only [go_sem, Nat.reduceBEq, ↓reduceIte, reduceCtorEq, Nat.reduceAdd, s0, s3, z2g])) | ((first | refine zqd _ rfl (fun hc => ?_) (fun hc => ?_) | refine zqm _ rfl (fun hc => ?_) (fun hc => ?_)) <;> (((try simp only [z06] at hc); (try omega)))) | refine zqz ?_ | refine zqu (by simp only [go_sem]; rfl) rfl ?_ | (refine hK _ ?_; clear hK K))
 ·have O : k < l.length := by omega
  refine z05 ?_
  have : l.all (fun w => decide (w.text.size <= 100)) = false := zug O (decide_eq_false (by omega))
  simp only [z8k, this]; rfl
 ·have O : k < l.length := by omega
  (refine Exists.intro _ (And.intro ?_ ⟨k + 1, rfl, ?_⟩)); rotate_left; (simp (disch := omega) only [go_sem, Nat.reduceBEq, s0, s3, true_and, Int.natCast_add, Int.natCast_one]); rotate_left
  ·omega
  ·exact ⟨by omega, zio O sp1 (decide_eq_true (by omega))⟩
 ·have := ziq (by omega) sp1
  refine z05 ?_
  simp only [z8k, this, Bool.true_and]
  congr 1; simp only [eq_iff_iff]; omega
namespace Tr
def zh4 (t : T) : Bool := zg6 (fun t l => decide (t.head.length <= maxLen) && (decide (t.words.length <= maxLen) && (decide (t.kids.length <= maxLen) && l.all id))) t
theorem zc6 (t : T) : zh4 t = true ↔ t.head.length <= maxLen /\ t.words.length <= maxLen /\ t.kids.length <= maxLen /\ ∀ k ∈ t.kids, zh4 k = true := by
 unfold zh4
 rw [z3m]
 simp only [List.all_map, Bool.and_eq_true, decide_eq_true_iff, List.all_eq_true]
 rfl
def z34 (deep most : Int) : List (Int -> Int -> Int) -> Int -> Int
 | [], n => n
 | f :: fs, n => if n <= most then z34 deep most fs (n + f (deep + 1) (most - n)) else n
def z3e (t : T) : Int -> Int -> Int := zg6 (fun _ l deep most => if 20 < deep then most + 1 else z34 deep most l 1) t
theorem zir (t : T) (deep most : Int) : z3e t deep most = if 20 < deep then most + 1 else z34 deep most (t.kids.map z3e) 1 := by
 unfold z3e; rw [z3m]
theorem zh5 (deep most : Int) (f : Int -> Int -> Int) : ∀ (l : List (Int -> Int -> Int)) (n : Int), z34 deep most l n <= most -> z34 deep most (l ++ [f]) n = z34 deep most l n + f (deep + 1) (most - z34 deep most l n)
 | [], n, h => by simp only [z34] at h; simp only [List.nil_append, z34]; rw [if_pos h]
 | g :: l, n, h => by
  simp only [List.cons_append, z34] at h ⊢
  split at h
  ·rename_i hn
   simp only [hn, if_true]
   exact zh5 deep most f l _ h
  ·omega
theorem zh6 (deep most : Int) : ∀ (l r : List (Int -> Int -> Int)) (n : Int), most < z34 deep most l n -> z34 deep most (l ++ r) n = z34 deep most l n
 | [], r, n, h => by
  simp only [z34] at h
  simp only [List.nil_append]
  cases r with
  | nil => rfl
  | cons f r => simp only [z34]; rw [if_neg (by omega)]
 | g :: l, r, n, h => by
  simp only [List.cons_append, z34] at h ⊢
  split
  ·rename_i hn
   simp only [hn, if_true] at h
   exact zh6 deep most l r _ h
  ·rfl
theorem z8l {deep most : Int} : ∀ (l : List T), (∀ k ∈ l, ∀ (deep most : Int), 0 <= most -> 1 <= z3e k deep most /\ z3e k deep most <= most + 1) -> ∀ n : Int, 1 <= n -> n <= most + 1 -> 1 <= z34 deep most (l.map z3e) n /\ z34 deep most (l.map z3e) n <= most + 1
 | [], _, n, h1, h2 => ⟨h1, h2⟩
 | k :: l, O, n, h1, h2 => by
  simp only [List.map_cons, z34]
  split
  ·have := O k (by simp) (deep + 1) (most - n) (by omega)
   exact z8l l (fun q hq => O q (List.mem_cons_of_mem _ hq)) _ (by omega) (by omega)
  ·exact ⟨h1, h2⟩
theorem z6i : ∀ (t : T) (deep most : Int), 0 <= most -> 1 <= z3e t deep most /\ z3e t deep most <= most + 1 := by
 refine z53 fun t ih deep most hm => ?_
 rw [zir]
 split
 ·omega
 ·exact z8l t.kids ih 1 (by omega) (by omega)
end Tr
theorem zyf : ∀ t : T, zh4 t = true -> PC prog 31 [z1o t] (.bool (zf8 t)) := by
 refine z53 fun t ih hfit => ?_
 obtain ⟨h1, h2, h3, h4⟩ := (zc6 t).1 hfit
 have ih := fun k O => ih k O (h4 k O)
 have hsh := zoi t.head h1
 have hsw := zoi t.words h2
 unfold maxLen at h1 h2 h3
 rw [zkq]
 refine z3q 1 (by simp only [pureD.pureL, z0h, Bool.and_self]) rfl (z30 [] func31 rfl (by decide +kernel) rfl ?_)
 show awp _ _ (Code.seq _ _) _ _
 repeat' (first | refine nxt ?_ | ((first | refine zqh fun K hK => ?_ | refine zqs (hsh) ?_ | refine zqs (hsw) ?_); (simp (disch := omega) only [go_sem, Nat.reduceBEq, ↓reduceIte, reduceCtorEq, Nat.reduceAdd])) | (refine zqd _ rfl ?_ ?_ <;> intro hc <;> (first | (cases hc; done) | ((try simp only [z06] at hc); (try omega)))) | refine zqu (by simp only [go_sem]; rfl) rfl ?_ | (refine hK _ ?_; clear hK K) | (refine zqf (fun hb => ?_) (fun hb => ?_) <;> (have hb2 := hb; try simp only [z06] at hb2) <;> ((first | have F : (_ : Bool) = _ := hb2 | have F := eq_false hb2 | have F := eq_true hb2); (simp (disch := omega) only [go_sem, Nat.reduceBEq, ↓reduceIte, reduceCtorEq, Nat.reduceAdd, F]); clear hb F; (try omega))))
 rotate_right
 all_goals first | exact z05 (by simp_all; try omega) | skip
 have hlab : decide (t.label.size <= 30) = true := decide_eq_true (by omega)
 rw [hlab, ‹z8k t.head = true›, ‹z8k t.words = true›, Bool.true_and, Bool.true_and, Bool.true_and]
 (refine z6x (fun U st => ∃ (i : _), U = t.kids.length - i /\ st.t 1 = .ptr 0 0 /\ st.t 3 = .int .i64 i /\ st.H 0 = some (.box 27 (z04 t)) /\ (i <= t.kids.length) /\ ((t.kids.take i).all zf8 = true) /\ (1 <= st.nx)) ?_ ?_); rotate_left; (rintro U st ⟨i, rfl, s1, s3, sH0, sp0, sp1, sp2⟩); rotate_left
 ·(refine ⟨_, 0, rfl, ?_⟩); (simp (disch := omega) only [go_sem, Nat.reduceBEq, Nat.reduceLeDiff, true_and, and_true, Int.natCast_zero])
  try simp
 have hin := fun (h : i < t.kids.length) => ih t.kids[i] (List.getElem_mem h)
 repeat' (first | refine nxt ?_ | ((first | refine zqh fun K hK => ?_ | refine zqr fun K hK => ?_ | refine zqs (hin (by omega)) ?_); (simp (disch := omega) only [go_sem, Nat.reduceBEq, ↓reduceIte, reduceCtorEq, Nat.reduceAdd, s1, s3, sH0, z0l])) | ((first | refine zqd _ rfl (fun hc => ?_) (fun hc => ?_) | refine zqm _ rfl (fun hc => ?_) (fun hc => ?_)) <;> (((try simp only [z06] at hc); (try omega)))) | refine zqz ?_ | refine zqu (by simp only [go_sem]; rfl) rfl ?_ | (refine hK _ ?_; clear hK K))
 ·exact z05 (zug (k := i) (by omega) (by assumption)).symm
 ·(refine Exists.intro _ (And.intro ?_ ⟨i + 1, rfl, ?_⟩)); rotate_left; (simp (disch := omega) only [go_sem, Nat.reduceBEq, s1, s3, sH0, true_and, Int.natCast_add, Int.natCast_one]); rotate_left
  ·omega
  ·exact ⟨by omega, zio (by omega) sp1 (by assumption), by omega⟩
 ·exact z05 (ziq (by omega) sp1).symm
theorem pc_size : ∀ t : T, zh4 t = true -> ∀ deep most : Int, 0 <= deep -> deep <= 21 -> 0 <= most -> most <= 1000 -> PC prog 30 [z1o t, .int .i64 deep, .int .i64 most] (.int .i64 (z3e t deep most)) := by
 refine z53 fun t ih hfit deep most hd0 hd1 hm0 hm1 => ?_
 obtain ⟨h1, h2, h3, h4⟩ := (zc6 t).1 hfit
 unfold maxLen at h1 h2 h3
 have hb := z6i t deep most hm0
 rw [zir] at hb ⊢
 refine z3q 1 (by simp only [pureD.pureL, z0h, pureD, Bool.and_self]) rfl (z30 [] func30 rfl (by decide +kernel) rfl ?_)
 show awp _ _ (Code.seq _ _) _ _
 repeat' (first | refine nxt ?_ | ((refine zqh fun K hK => ?_); (simp (disch := omega) only [go_sem, Nat.reduceBEq, ↓reduceIte])) | (refine zqd _ rfl ?_ ?_ <;> intro hc <;> (((try simp only [z06] at hc); (try omega)))) | refine zqu (by simp only [go_sem]; rfl) rfl ?_ | (refine hK _ ?_; clear hK K))
 ·refine z2v ?_
  rw [if_pos (by assumption)]
 ·rw [if_neg (by assumption)] at hb ⊢
  (refine z6x (fun U st => ∃ (i : _), U = t.kids.length - i /\ st.t 1 = .int .i64 deep /\ st.t 2 = .int .i64 most /\ st.t 3 = .ptr 0 0 /\ st.t 7 = .int .i64 (z34 deep most ((t.kids.take i).map z3e) 1) /\ st.t 8 = .int .i64 i /\ st.H 0 = some (.box 27 (z04 t)) /\ (i <= t.kids.length) /\ (1 <= st.nx)) ?_ ?_); rotate_left; (rintro U st ⟨i, rfl, s1, s2, s3, s7, s8, sH0, sp0, sp1⟩); rotate_left
  ·(refine ⟨_, 0, rfl, ?_⟩); (simp (disch := omega) only [go_sem, Nat.reduceBEq, Nat.reduceLeDiff, true_and, and_true, and_self, Int.natCast_zero, List.map_nil])
   try simp [z34]
  have hin := fun (h : i < t.kids.length) => ih t.kids[i] (List.getElem_mem h) (h4 _ (List.getElem_mem h)) (deep + 1) (most - z34 deep most ((t.kids.take i).map z3e) 1)
  have hpb := z8l (deep := deep) (most := most) (t.kids.take i) (fun k _ => z6i k) 1 (by omega) (by omega)
  have hnext : ∀ h : i < t.kids.length, z34 deep most ((t.kids.take i).map z3e) 1 <= most -> z34 deep most ((t.kids.take (i + 1)).map z3e) 1 = z34 deep most ((t.kids.take i).map z3e) 1 + z3e t.kids[i] (deep + 1) (most - z34 deep most ((t.kids.take i).map z3e) 1) := fun h hle => by
   rw [List.take_succ_eq_append_getElem h, List.map_append, List.map_cons, List.map_nil, zh5 _ _ _ _ _ hle]
  have hkb := fun (h : i < t.kids.length) => z6i t.kids[i] (deep + 1) (most - z34 deep most ((t.kids.take i).map z3e) 1)
  have hstop : most < z34 deep most ((t.kids.take i).map z3e) 1 -> z34 deep most (t.kids.map z3e) 1 = z34 deep most ((t.kids.take i).map z3e) 1 := fun h => by
   have := zh6 deep most ((t.kids.take i).map z3e) ((t.kids.drop i).map z3e) 1 h
   rwa [<- List.map_append, List.take_append_drop] at this
  repeat' (first | refine nxt ?_ | ((first | refine zqh fun K hK => ?_ | refine zqr fun K hK => ?_ | refine zqs (hin (by omega) (by omega) (by omega) (by omega) (by omega)) ?_); (simp (disch := omega) only [go_sem, Nat.reduceBEq, ↓reduceIte, reduceCtorEq, Nat.reduceAdd, s1, s2, s3, s7, s8, sH0, z0l])) | (refine zqd _ rfl ?_ ?_ <;> intro hc <;> (first | (cases hc; done) | ((try simp only [z06] at hc); (try omega)))) | refine zqz ?_ | refine zqu (by simp only [go_sem]; rfl) rfl ?_ | (refine hK _ ?_; clear hK K) | (refine zqf (fun hb => ?_) (fun hb => ?_) <;> (have hb2 := hb; try simp only [z06] at hb2) <;> ((first | have F := eq_false hb2 | have F := eq_true hb2); (simp (disch := omega) only [go_sem, Nat.reduceBEq, ↓reduceIte, F, s2, s7]); clear hb F; (try omega))))
  ·have O := hkb (by omega) (by omega)
   have hn := hnext (by omega) (by assumption)
   (refine Exists.intro _ (And.intro ?_ ⟨i + 1, rfl, ?_⟩)); rotate_left; (simp (disch := omega) only [go_sem, Nat.reduceBEq, s1, s2, s3, s7, s8, sH0, true_and, Int.natCast_add, Int.natCast_one]); rotate_left
   ·omega
   ·rw [hn]
    exact ⟨rfl, by omega, by omega⟩
  ·exact z2v (hstop (by omega)).symm
  ·have : t.kids.take i = t.kids := List.take_of_length_le (by omega)
   rw [this]
   exact z2v rfl
namespace Tr
def zsd (t : T) (most : Int) : Bool := decide (z3e t 0 most <= most) && zf8 t
end Tr
theorem pc_Few (t : T) (hfit : zh4 t = true) (most : Int) (hm0 : 0 <= most) (hm1 : most <= 1000) : PC prog 15 [z1o t, .int .i64 most] (.bool (zsd t most)) := by
 refine z3q 1 (by simp only [pureD.pureL, z0h, pureD, Bool.and_self]) rfl (z30 [] func15 rfl (by decide +kernel) rfl ?_)
 show awp _ _ (Code.seq _ _) _ _
 have hs := pc_size t hfit 0 most (by omega) (by omega) hm0 hm1
 have hw := zyf t hfit
 repeat' (first | ((first | refine zqh fun K hK => ?_ | refine zqs (hs) ?_ | refine zqs (hw) ?_); (simp (disch := omega) only [go_sem, Nat.reduceBEq, ↓reduceIte, Nat.reduceAdd, Nat.reduceLeDiff])) | refine nxt ?_ | refine zqu (by simp only [go_sem]; rfl) rfl ?_ | (refine hK _ ?_; clear hK K) | (refine zqf (fun hb => ?_) (fun hb => ?_) <;> (have hb2 := hb; try simp only [z06] at hb2) <;> ((first | have F := eq_false hb2 | have F := eq_true hb2); (simp (disch := omega) only [go_sem, Nat.reduceBEq, ↓reduceIte, Nat.reduceAdd, Nat.reduceLeDiff, F]); clear hb F; (try omega))))
 ·exact z05 (by unfold zsd; rw [decide_eq_true (by assumption), Bool.true_and])
 ·exact z05 (by unfold zsd; rw [decide_eq_false (by assumption), Bool.false_and])
end
end Go.Proofs.YtfechgagcgbldaaDoor
namespace Go.Proofs.YtfechgagcgbldaaDoor.Glue
open Go.ChangeShapes Go.WideShapes Go.ChangeAt Go.RowKit Abs Facts Tr
section
open Go.ChangeShapes
variable {H : Type} {enc : TypeId × Value -> H} {P : Program} {w : World} {base : Nat} {spare : Nat -> Bool} {held : Bool}
end
theorem ownK : ownKnob Tryd.prog.godebug = none := by kernel_rfl
theorem laidOutK : laidOutB Tryd.prog = true := by kernel_rfl
def S : List TypeId := [4, 3, 9, 23, 81, 83, 24, 27, 25]
set_option maxRecDepth 100000
theorem closedS : zno Tryd.prog S = true := by decide +kernel
theorem zzs {n : Nat} {ds : List D} (h : z51 Tryd.prog n 23 ds) : ∃ i : Idv, ds = cellsId i := by
 obtain ⟨m, rfl, h⟩ := z6n Tryd.underlying23 h
 obtain ⟨d1, r1, rfl, h1, d2, r2, rfl, h2, d3, r3, rfl, h3, rfl⟩ := h
 obtain ⟨i, rfl, _⟩ := z67 Tryd.underlying3 h1
 obtain ⟨j, rfl, _⟩ := z67 Tryd.underlying3 h2
 obtain ⟨k, rfl, _⟩ := z67 Tryd.underlying3 h3
 exact ⟨⟨i, j, k⟩, rfl⟩
theorem zs7 {n : Nat} {ds : List D} (h : z51 Tryd.prog n 83 ds) : ∃ w : Wd, ds = zch w := by
 obtain ⟨m, rfl, h⟩ := z6n Tryd.underlying83 h
 obtain ⟨d1, r1, rfl, h1, d2, r2, rfl, h2, rfl⟩ := h
 obtain ⟨s, rfl, _⟩ := zls Tryd.underlying9 h1
 obtain ⟨m', rfl, h3⟩ := z6n Tryd.underlying81 h2
 obtain ⟨e1, q1, rfl, g1, e2, q2, rfl, g2, e3, q3, rfl, g3, rfl⟩ := h3
 obtain ⟨i, rfl, _⟩ := z67 Tryd.underlying3 g1
 obtain ⟨j, rfl, _⟩ := z67 Tryd.underlying3 g2
 obtain ⟨k, rfl, _⟩ := z67 Tryd.underlying3 g3
 exact ⟨⟨s, ⟨i, j, k⟩⟩, rfl⟩
theorem zg8 {n : Nat} {ds : List D} (h : z51 Tryd.prog n 24 ds) : ∃ l : List Wd, ds = [z2g l] /\ l.length <= maxLen := by
 obtain ⟨m, parts, rfl, hl, hp, rfl⟩ := zg7 Tryd.underlying24 h
 obtain ⟨l, rfl, _⟩ := z82 (f := zch) (q := fun _ => True) (fun p hp => by obtain ⟨w, e⟩ := zs7 hp; exact ⟨w, e, trivial⟩) parts hp
 refine ⟨l, ?_, by simpa using hl⟩
 rw [zp7, zvv, List.map_map]; rfl
theorem zs8 : ∀ (n : Nat) {ds : List D}, z51 Tryd.prog n 27 ds -> ∃ t : T, ds = z04 t /\ zh4 t = true := by
 intro n
 induction n using Nat.strongRecOn with
 | ind n ih =>
  intro ds h
  obtain ⟨m, rfl, h⟩ := z6n Tryd.underlying27 h
  obtain ⟨d1, r1, rfl, h1, d2, r2, rfl, h2, d3, r3, rfl, h3, d4, r4, rfl, h4, d5, r5, rfl, h5, d6, r6, rfl, h6, rfl⟩ := h
  obtain ⟨i, rfl⟩ := zzs h1
  obtain ⟨k, rfl, _⟩ := z67 Tryd.underlying3 h2
  obtain ⟨s, rfl, _⟩ := zls Tryd.underlying9 h3
  obtain ⟨a, rfl, ha⟩ := zg8 h4
  obtain ⟨b, rfl, hb⟩ := zg8 h5
  obtain ⟨q, parts, rfl, hl, hp, rfl⟩ := zg7 Tryd.underlying25 h6
  obtain ⟨l, rfl, hq⟩ := z82 (f := z04) (q := fun t => zh4 t = true) (fun p hp => ih q (by omega) hp) parts hp
  refine ⟨.mk i k s a b l, ?_, ?_⟩
  ·rw [z0t, zjf, zvs, List.map_map]; rfl
  ·rw [zc6]
   exact ⟨ha, hb, (show l.length <= _ by simpa using hl), hq⟩
section
variable {H : Type} {enc : TypeId × Value -> H} {W : World} {base : Nat} {r : Reach} {b0 : Nat} {spare : Nat -> Bool} {held : Bool} {v : Value} {d : DataW H} {p : List MemPlace}
theorem rd_unit (hv : Value.okWide Tryd.prog W r b0 27 v) (h : DataW.Trod enc Tryd.prog W base spare held 27 v d p) : ∃ t : T, zh4 t = true /\ rel (z7o W) (z1o t) v := by
 obtain ⟨cs, rfl, _⟩ := okWide_struct Tryd.underlying27 hv
 obtain ⟨m, ds, ht, hr⟩ := agg_arg closedS (by decide) h
 obtain ⟨q, rfl, hq⟩ := zs8 _ ht
 exact ⟨q, hq, hr⟩
end
end Go.Proofs.YtfechgagcgbldaaDoor.Glue
namespace Go.Proofs.YtfechgagcgbldaaDoor
section
open Abs Facts Tr
attribute [local irreducible] awp
namespace Tr
def bl (s : ByteArray) : List UInt8 := s.data.toList
theorem z27 (s : ByteArray) : (bl s).length = s.size := rfl
def dig (b : UInt8) : Bool := decide (48 <= b.toNat /\ b.toNat <= 57)
def cap (b : UInt8) : Bool := decide (65 <= b.toNat /\ b.toNat <= 90)
def ink (b : UInt8) : Bool := decide (33 <= b.toNat /\ b.toNat <= 126)
def zim (s : ByteArray) : Nat := ((bl s).takeWhile dig).length
def z87 (s : ByteArray) : Bool := decide (1 <= zim s /\ zim s <= 4 /\ ((bl s).headD 0).toNat ≠ 48 /\ s.size - zim s <= 3) && ((bl s).drop (zim s)).all cap
def zin (s : ByteArray) : Bool := decide (1 <= s.size /\ s.size <= 24) && (bl s).all ink
def seqB (l : List ByteArray) : Bool := decide (l.length <= 256) && l.all zin
def zog (l : List Wd) : Bool := decide (l.length <= 256) && l.all fun w => zin w.text
theorem zoh (l : List Wd) : zog l = (decide (l.length <= 256) && seqB (l.map (·.text))) := by
 unfold zog seqB
 rw [List.length_map, List.all_map]
 cases decide (l.length <= 256) <;> simp [Function.comp_def]
theorem z7s {α : Type} {p : α -> Bool} : ∀ {l : List α} {k : Nat} (_ : k <= l.length), (∀ j, (hj : j < k) -> p (l[j]'(by omega)) = true) -> (∀ h : k < l.length, p l[k] = false) -> (l.takeWhile p).length = k
 | [], k, O, _, _ => by simp at O; simp [O]
 | x :: l, 0, _, _, h2 => by
  have := h2 (by simp)
  simp only [List.getElem_cons_zero] at this
  simp [this]
 | x :: l, k + 1, O, h1, h2 => by
  have h0 := h1 0 (by omega)
  simp only [List.getElem_cons_zero] at h0
  rw [List.takeWhile_cons, if_pos h0, List.length_cons]
  have := z7s (p := p) (l := l) (k := k) (by simpa using O) (fun j hj => by simpa using h1 (j + 1) (by omega)) (fun h => h2 (by simpa using h))
  rw [this]
theorem zf7 (s : ByteArray) : zim s <= s.size := by
 unfold zim
 rw [<- z27]
 exact (List.takeWhile_prefix _).length_le
end Tr
theorem bget {s : ByteArray} {i : Nat} (h : i < s.size) : s[i]? = some ((bl s)[i]'h) := getElem?_pos s i h
theorem bhead {s : ByteArray} (h : 0 < s.size) : (bl s)[0]'h = (bl s).headD 0 := by
 have : ∀ (l : List UInt8) (h : 0 < l.length), l[0]'h = l.headD 0 := fun l h => by cases l with
  | nil => exact absurd h (by simp)
  | cons a l => rfl
 exact this _ _
end
open _root_.Go.Proofs.Tryd
section
open Abs Facts Tr
attribute [local irreducible] awp
namespace Tr
def nodesT (t : T) : List T := zg6 (fun t l => t :: l.flatten) t
theorem z15 (t : T) : nodesT t = t :: t.kids.flatMap nodesT := by
 unfold nodesT; rw [z3m, List.flatMap]
theorem z07 (t : T) : t ∈ nodesT t := by rw [z15]; exact List.mem_cons_self
theorem z0j {t k x : T} (O : k ∈ t.kids) (hx : x ∈ nodesT k) : x ∈ nodesT t := by
 rw [z15]; exact List.mem_cons_of_mem _ (List.mem_flatMap.2 ⟨k, O, hx⟩)
variable {σ : Type}
def z9l (step : T -> σ -> Bool × σ) : List T -> σ -> Bool × σ
 | [], s => (true, s)
 | x :: l, s => if (step x s).1 = true then z9l step l (step x s).2 else (false, (step x s).2)
theorem z9x (step : T -> σ -> Bool × σ) : ∀ (a b : List T) (s : σ), z9l step (a ++ b) s = if (z9l step a s).1 = true then z9l step b (z9l step a s).2 else z9l step a s
 | [], b, s => by simp [z9l]
 | x :: a, b, s => by
  simp only [List.cons_append, z9l]
  split
  ·exact z9x step a b _
  ·simp
theorem zt2 (step : T -> σ -> Bool × σ) {a b : List T} {s : σ} (h : (z9l step a s).1 = false) : z9l step (a ++ b) s = z9l step a s := by
 rw [z9x, h]; simp
theorem zt3 (step : T -> σ -> Bool × σ) (m : σ -> Nat) (hm : ∀ x s, m (step x s).2 <= m s + 1) : ∀ (l : List T) (s : σ), m (z9l step l s).2 <= m s + l.length
 | [], s => by simp [z9l]
 | x :: l, s => by
  have h1 := hm x s
  simp only [z9l, List.length_cons]
  split
  ·have := zt3 step m hm l (step x s).2
   omega
  ·simp only; omega
theorem zxb (step : T -> σ -> Bool × σ) {f : T -> List T} {l : List T} {i : Nat} {s s2 : σ} (h : i < l.length) (hq : z9l step ((l.take i).flatMap f) s = (true, s2)) :
  z9l step ((l.take (i + 1)).flatMap f) s = z9l step (f l[i]) s2 := by
 rw [List.take_succ_eq_append_getElem h, List.flatMap_append, z9x, hq]
 simp
theorem zt4 (step : T -> σ -> Bool × σ) {f : T -> List T} {l : List T} {i : Nat} {s s2 : σ} (hq : z9l step ((l.take i).flatMap f) s = (false, s2)) : z9l step (l.flatMap f) s = (false, s2) := by
 have : l.flatMap f = (l.take i).flatMap f ++ (l.drop i).flatMap f := by rw [<- List.flatMap_append, List.take_append_drop]
 rw [this, zt2 _ (by rw [hq]), hq]
end Tr
theorem zet {σ : Type} {g : FuncId} {cap : List D} {lo : Nat} {I : σ -> HM -> Prop} (step : T -> σ -> Bool × σ) (hI : Low lo I) (m : σ -> Nat) (M : Nat) (hm : ∀ x s, m (step x s).2 <= m s + 1) :
  ∀ u : T, zh4 u = true -> (∀ x ∈ nodesT u, ∀ s, m s < M -> Eff prog g (z1o x :: cap) lo I s (step x s).2 (.bool (step x s).1)) ->
  ∀ s, m s + (nodesT u).length <= M -> Eff prog 52 [z1o u, .fn g cap] lo I s (z9l step (nodesT u) s).2 (.bool (z9l step (nodesT u) s).1) := by
 refine z53 fun u ih hfit hv s hM => ?_
 obtain ⟨h1, h2, h3, h4⟩ := (zc6 u).1 hfit
 have ih := fun k O => ih k O (h4 k O) (fun x hx => hv x (z0j O hx))
 have hlen : (nodesT u).length = 1 + (u.kids.flatMap nodesT).length := by rw [z15, List.length_cons, Nat.add_comm]
 have hv := hv u (z07 u) s (by omega)
 have hm1 := hm u s
 unfold maxLen at h3
 have hrun : z9l step (nodesT u) s = if (step u s).1 = true then z9l step (u.kids.flatMap nodesT) (step u s).2 else (false, (step u s).2) := by rw [z15]; rfl
 rw [hrun]; clear hrun
 generalize step u s = p1 at hv hm1 ⊢
 obtain ⟨b1, s1⟩ := p1
 simp only at hv hm1 ⊢
 refine zf2 hI rfl fun H nx hlo hs => ?_
 refine (z30 [] func52 rfl (by decide +kernel) rfl ?_)
 show awp _ _ (Code.seq _ _) _ _
 repeat' (first | refine nxt ?_ | ((refine zqh fun K hK => ?_); (simp (disch := omega) only [go_sem, Nat.reduceBEq, ↓reduceIte, Nat.reduceAdd, Nat.reduceLeDiff])) | (refine hK _ ?_; clear hK K))
 refine zap hv (by show lo <= nx + 1; omega) (hI.loc s H _ (fun id hid => zbz (by omega)) hs) fun H1 hs1 hH1 => ?_
 have hb1 : H1 nx = some (.box 27 (z04 u)) := (hH1 nx hlo).trans updH_eq
 have hk1 : ∀ id, lo <= id -> id < nx -> H1 id = H id := fun id h1 h2 => (hH1 id h1).trans (zbz (by omega))
 clear hH1
 (try (simp (disch := omega) only [go_sem, Nat.reduceBEq])); repeat' (first | refine nxt ?_ | ((refine zqh fun K hK => ?_); (simp (disch := omega) only [go_sem, Nat.reduceBEq, ↓reduceIte, reduceCtorEq, Nat.reduceAdd, hb1])) | (refine zqd _ rfl ?_ ?_ <;> intro hc <;> (((try simp only [z06] at hc); (try omega)))) | refine zqu (by simp only [go_sem]; rfl) rfl ?_ | (refine hK _ ?_; clear hK K))
 ·subst hc
  (simp (disch := omega) only [go_sem, Nat.reduceBEq, ↓reduceIte])
  exact ⟨hs1, hk1⟩
 ·subst hc
  simp only [if_true]
  (refine z6x (fun U st => ∃ (i : _) (si : _), U = u.kids.length - i /\ st.t 1 = .fn g cap /\ st.t 12 = z0l u.kids /\ st.t 13 = .int .i64 u.kids.length /\ st.t 14 = .int .i64 i /\ (i <= u.kids.length) /\ (nx < st.nx) /\ (I si st.H) /\ (z9l step ((u.kids.take i).flatMap nodesT) s1 = (true, si)) /\ (∀ id, lo <= id -> id < nx -> st.H id = H id)) ?_ ?_); rotate_left; (rintro U st ⟨i, si, rfl, q1, q12, q13, q14, qp0, qp1, qp2, qp3, qp4⟩); rotate_left
  ·(refine ⟨_, 0, s1, rfl, ?_⟩); (simp (disch := omega) only [go_sem, Nat.reduceBEq, true_and, Int.natCast_zero, List.flatMap_nil, z0l])
   exact ⟨by omega, hs1, rfl, hk1⟩
  have ih := fun (h : i < u.kids.length) => ih u.kids[i] (List.getElem_mem h) si
  repeat' (first | ((refine zqh fun K hK => ?_); (simp (disch := omega) only [go_sem, Nat.reduceBEq, ↓reduceIte, reduceCtorEq, Nat.reduceAdd, Nat.reduceLeDiff, q1, q12, q13, q14, z0l])) | (refine zqd _ rfl ?_ ?_ <;> intro hc <;> (((try simp only [z06] at hc); (try omega)))) | refine nxt ?_ | refine zqz ?_ | refine zqu (by simp only [go_sem]; rfl) rfl ?_ | (refine hK _ ?_; clear hK K))
  ·have hi : i < u.kids.length := by omega
   obtain ⟨b2, s2, e2⟩ : ∃ b2 s2, z9l step (nodesT u.kids[i]) si = (b2, s2) := ⟨_, _, rfl⟩
   have ih := ih hi (by
    have h1 := zt3 step m hm ((u.kids.take i).flatMap nodesT) s1
    rw [qp3] at h1
    have h2 : (u.kids.flatMap nodesT).length = ((u.kids.take i).flatMap nodesT).length + ((nodesT u.kids[i]).length + ((u.kids.drop (i + 1)).flatMap nodesT).length) := by
     rw [<- List.length_append, <- List.flatMap_cons, List.getElem_cons_drop, <- List.length_append, <- List.flatMap_append, List.take_append_drop]
    simp only at h1
    omega)
   rw [e2] at ih
   have hrun := (zxb step hi qp3).trans e2
   refine zap ih (by show lo <= st.nx + 1; omega) (hI.loc si st.H _ (fun id hid => (zbz (by omega)).trans (zbz (by omega))) qp2) fun H2 hs2 hH2 => ?_
   have hk2 : ∀ id, lo <= id -> id < nx -> H2 id = H id := fun id h1 h2 => ((hH2 id h1).trans ((zbz (by omega)).trans (zbz (by omega)))).trans (qp4 id h1 h2)
   clear hH2
   (try (simp (disch := omega) only [go_sem, Nat.reduceBEq])); repeat' (first | ((first | refine zqh fun K hK => ?_ | refine zqr fun K hK => ?_); (simp (disch := omega) only [go_sem, Nat.reduceBEq, ↓reduceIte, q14])) | ((refine zqm _ rfl (fun hc => ?_) (fun hc => ?_)) <;> (((try simp only [z06] at hc); (try omega)))) | refine nxt ?_ | refine zqu (by simp only [go_sem]; rfl) rfl ?_ | (refine hK _ ?_; clear hK K))
   ·subst hc
    (simp (disch := omega) only [go_sem, Nat.reduceBEq])
    rw [zt4 step hrun]
    exact ⟨rfl, hs2, hk2⟩
   ·subst hc
    (refine Exists.intro _ (And.intro ?_ ⟨i + 1, s2, rfl, ?_⟩)); rotate_left; (simp (disch := omega) only [go_sem, Nat.reduceBEq, q1, q12, q13, q14, true_and, Int.natCast_add, Int.natCast_one, hrun]); rotate_left
    ·omega
    ·exact ⟨by omega, hs2, hk2⟩
  ·have : u.kids.take i = u.kids := List.take_of_length_le (by omega)
   rw [this] at qp3
   rw [qp3]
   (simp (disch := omega) only [go_sem, Nat.reduceBEq])
   exact ⟨qp2, qp4⟩
namespace Tr
def cntT (t : T) : Nat := (nodesT t).length
def idsT (t : T) : List Idv := (nodesT t).map T.id
theorem znw (f : T -> Bool) : ∀ (l : List T) (s : Unit), z9l (fun x s => (f x, s)) l s = (l.all f, ())
 | [], _ => rfl
 | x :: l, s => by
  simp only [z9l, List.all_cons]
  cases f x <;> simp [znw f l]
theorem znx : ∀ (l : List T) (n : Nat), z9l (fun _ n => (true, n + 1)) l n = (true, n + l.length)
 | [], _ => rfl
 | x :: l, n => by simp only [z9l, if_true, znx l, List.length_cons]; congr 1; omega
theorem zny : ∀ (l : List T) (a : List Idv), z9l (fun x a => (true, a ++ [x.id])) l a = (true, a ++ l.map T.id)
 | [], a => by simp [z9l]
 | x :: l, a => by simp [z9l, zny l]
end Tr
theorem zxc (lo : Nat) (hz : lo = 0) : Low lo (fun (_ : Unit) (_ : HM) => True) := ⟨fun _ _ _ _ h => h, fun _ _ _ id o h _ => by omega⟩
theorem zxd {g : FuncId} {cap : List D} (f : T -> Bool) (hc : pureD.pureL cap = true) (u : T) (hfit : zh4 u = true) (hv : ∀ x ∈ nodesT u, PC prog g (z1o x :: cap) (.bool (f x))) :
  PC prog 52 [z1o u, .fn g cap] (.bool ((nodesT u).all f)) := by
 have h := zet (fun x (s : Unit) => (f x, s)) (zxc 0 rfl) (fun _ => 0) (nodesT u).length (fun _ _ => by simp) u hfit (fun x hx s _ => (hv x hx).eff s) () (by simp)
 rw [znw] at h
 exact ⟨by simp only [pureD.pureL, z0h, pureD, hc, Bool.and_self], rfl, (h noH 0 (Nat.le_refl _) trivial).mono fun _ _ _ h => h.1⟩
def zpv (u : T) (n : Nat) : List HObj := [.box 27 (z04 u), .box 3 [.int .i64 (IntKind.i64.wrap n)]]
def zmf (u : T) (l : List Idv) : List HObj := [.box 27 (z04 u), .box 39 [.osl 2 l.length], .row 23 l.length (l.flatMap cellsId)]
theorem zgr (n : Nat) (u : T) : lowD.lowL n (z04 u) = true := z1t n _ (z1z u)
theorem low_C (u : T) : Low 2 fun n H => ∀ j, j < 2 -> H j = (zpv u n)[j]? := zo5 (zpv u) (fun _ => rfl) fun n o ho => by
 simp only [zpv, List.mem_cons, List.not_mem_nil, or_false] at ho
 rcases ho with rfl | rfl
 ·exact zgr _ _
 ·rfl
theorem low_I (u : T) : Low 3 fun l H => ∀ j, j < 3 -> H j = (zmf u l)[j]? := zo5 (zmf u) (fun _ => rfl) fun l o ho => by
 simp only [zmf, List.mem_cons, List.not_mem_nil, or_false] at ho
 rcases ho with rfl | rfl | rfl
 ·exact zgr _ _
 ·rfl
 ·exact z1t _ _ (z12 (fun _ => rfl) l)
theorem zpw (u x : T) (n : Nat) : Eff prog 56 [z1o x, .ptr 1 0] 2 (fun n H => ∀ j, j < 2 -> H j = (zpv u n)[j]?) n (n + 1) (.bool true) := by
 refine zf2 (low_C u) rfl fun H nx hlo hs => ?_
 have h1 : H 1 = some (.box 3 [.int .i64 (IntKind.i64.wrap n)]) := hs 1 (by omega)
 have h0 : H 0 = some (.box 27 (z04 u)) := hs 0 (by omega)
 have hne : (1 == nx) = false := by simp; omega
 have hne' : (0 == nx) = false := by simp; omega
 refine (z30 [] func56 rfl (by decide +kernel) rfl ?_)
 show awp _ _ (Code.seq _ _) _ _
 repeat' (first | ((refine zqh fun K hK => ?_); (simp (disch := omega) only [go_sem, Nat.reduceBEq, ↓reduceIte, Nat.reduceAdd, Nat.reduceLeDiff, Nat.reduceLT, h1, hne])) | refine nxt ?_ | refine zqu (by simp only [go_sem]; rfl) rfl ?_ | (refine hK _ ?_; clear hK K))
 (simp (disch := omega) only [go_sem, Nat.reduceBEq])
 refine ⟨fun j hj => ?_, fun id h1 h2 => ?_⟩
 ·match j, hj with
  | 0, _ => simp [hne', h0, zpv]
  | 1, _ => simp [zpv]; simp only [IntKind.wrap_i64]; omega
 ·rw [show (id == 1) = false from by simp; omega, show (id == nx) = false from by simp; omega]; rfl
theorem zxe (u x : T) (l : List Idv) (hl : l.length < 5000000000000) : Eff prog 90 [z1o x, .ptr 1 0] 3 (fun l H => ∀ j, j < 3 -> H j = (zmf u l)[j]?) l (l ++ [x.id]) (.bool true) := by
 refine zf2 (low_I u) rfl fun H nx hlo hs => ?_
 have h1 : H 1 = some (.box 39 [.osl 2 l.length]) := hs 1 (by omega)
 have h0 : H 0 = some (.box 27 (z04 u)) := hs 0 (by omega)
 have h2 : H 2 = some (.row 23 l.length (l.flatMap cellsId)) := hs 2 (by omega)
 have hne : (1 == nx) = false := by simp; omega
 have hne' : (0 == nx) = false := by simp; omega
 have hne2 : (2 == nx) = false := by simp; omega
 refine (z30 [] func90 rfl (by decide +kernel) rfl ?_)
 show awp _ _ (Code.seq _ _) _ _
 repeat' (first | ((refine zqh fun K hK => ?_); (simp (disch := omega) only [go_sem, Nat.reduceBEq, ↓reduceIte, reduceCtorEq, Nat.reduceAdd, Nat.reduceMul, Nat.reduceLeDiff, Nat.reduceLT, h1, h2, hne, hne2])) | refine nxt ?_ | refine zqu (by simp only [go_sem]; rfl) rfl ?_ | (refine hK _ ?_; clear hK K))
 (simp (disch := omega) only [go_sem, Nat.reduceBEq])
 refine ⟨fun j hj => ?_, fun id h1 h2 => ?_⟩
 ·match j, hj with
  | 0, _ => simp [hne', h0, zmf]
  | 1, _ => simp [zmf]
  | 2, _ => simp [zmf, cellsId]
 ·rw [show (id == 1) = false from by simp; omega, show (id == 2) = false from by simp; omega, show (id == nx) = false from by simp; omega]; rfl
theorem zdq (u : T) (hfit : zh4 u = true) (hs : cntT u <= 1000000000) : PC prog 41 [z1o u] (.int .i64 (cntT u)) := by
 refine z3q 1 (by simp only [pureD.pureL, z0h, Bool.and_self]) rfl (z30 [] func41 rfl (by decide +kernel) rfl ?_)
 show awp _ _ (Code.seq _ _) _ _
 repeat' (first | ((refine zqh fun K hK => ?_); (simp (disch := omega) only [go_sem, Nat.reduceBEq, ↓reduceIte, Nat.reduceAdd, Nat.reduceLeDiff, Nat.reduceLT])) | (refine hK _ ?_; clear hK K))
 have h := zet (fun _ n => (true, n + 1)) (low_C u) (fun _ => 0) (nodesT u).length (fun _ _ => by simp) u hfit (fun x _ n _ => zpw u x n) 0 (by simp)
 rw [znx] at h
 refine zap h (Nat.le_refl _) (fun j hj => ?_) fun H1 hs1 _ => ?_
 ·match j, hj with
  | 0, _ => rfl
  | 1, _ => rfl
 ·have h1 : H1 1 = some (.box 3 [.int .i64 (IntKind.i64.wrap ((0 + (nodesT u).length : Nat) : Int))]) := hs1 1 (by omega)
  (try (simp (disch := omega) only [go_sem])); repeat' (first | ((refine zqh fun K hK => ?_); (simp (disch := omega) only [go_sem, Nat.reduceBEq, ↓reduceIte, Nat.reduceAdd, h1])) | refine nxt ?_ | refine zqu (by simp only [go_sem]; rfl) rfl ?_ | (refine hK _ ?_; clear hK K))
  refine z2v ?_
  exact z28 (by unfold cntT at hs; omega)
theorem pc_IDs (u : T) (hfit : zh4 u = true) (hs : cntT u <= 5000000000000) : PC prog 73 [z1o u] (z0m (idsT u)) := by
 refine z3q 2 (by simp only [pureD.pureL, z0h, Bool.and_self]) (z3w _) (z30 [] func73 rfl (by decide +kernel) rfl ?_)
 show awp _ _ (Code.seq _ _) _ _
 (refine zqh fun K hK => ?_); (simp only [go_sem, ↓reduceIte]); (refine hK _ ?_); (clear hK K)
 refine z6d fun K hK => ?_
 (simp (disch := omega) only [go_sem, Nat.reduceAdd])
 refine hK _ _ (zkb (b := 1) (e := 39) 23 (by (simp (disch := omega) only [go_sem, Nat.reduceBEq]))) ?_
 clear hK K
 repeat' (((refine zqh fun K hK => ?_); (simp (disch := omega) only [go_sem, Nat.reduceBEq, ↓reduceIte, Nat.reduceAdd, Nat.reduceLeDiff])))
 have h := zet (fun x l => (true, l ++ [x.id])) (low_I u) List.length (nodesT u).length (fun x l => by simp) u hfit (fun x _ l hl => zxe u x l (by unfold cntT at hs; omega)) [] (by simp)
 rw [zny] at h
 refine zap h (Nat.le_refl _) (fun j hj => ?_) fun H1 hs1 _ => ?_
 ·match j, hj with
  | 0, _ => rfl
  | 1, _ => rfl
  | 2, _ => rfl
 ·have h1 : H1 1 = some (.box 39 [.osl 2 (idsT u).length]) := hs1 1 (by omega)
  have h2 : H1 2 = some (.row 23 (idsT u).length ((idsT u).flatMap cellsId)) := hs1 2 (by omega)
  (try (simp (disch := omega) only [go_sem])); repeat' (first | ((refine zqh fun K hK => ?_); (simp (disch := omega) only [go_sem, Nat.reduceBEq, ↓reduceIte, Nat.reduceAdd, h1])) | refine nxt ?_ | refine zqu (by simp only [go_sem]; rfl) rfl ?_ | (refine hK _ ?_; clear hK K))
  refine z8i ?_
  exact z1s 0 h2 z6p z8y (fun _ => rfl) (fun _ => rfl)
end
section
open Abs Facts Tr
attribute [local irreducible] awp
namespace Tr
def z85 (p : Int -> Bool) (s : ByteArray) : Nat := ((bl s).takeWhile fun b => !p b.toNat).length
theorem zk3 {p : Int -> Bool} {s : ByteArray} {k : Nat} (O : k <= s.size) (h1 : ∀ j, (hj : j < k) -> p ((bl s)[j]'(by rw [z27]; omega)).toNat = false) (h2 : ∀ h : k < s.size, p ((bl s)[k]'h).toNat = true) : z85 p s = k := by
 unfold z85
 refine z7s (by rw [z27]; exact O) (fun j hj => by rw [h1 j hj]; rfl) (fun h => by rw [h2 h]; rfl)
end Tr
theorem zt7 {s : ByteArray} {i : Nat} (h : i < s.size) (hb : ((bl s)[i]'h).toNat < 128) : Utf8.decode s i = (((bl s)[i]'h).toNat, 1) := decode_ascii s i h hb
theorem zt8 {s : ByteArray} {i : Nat} (h : i < s.size) (hb : 128 <= ((bl s)[i]'h).toNat) : 128 <= (Utf8.decode s i).1 := (decode_high s i h hb).1
theorem zk4 (s : ByteArray) (hs : s.size <= maxLen) {g : FuncId} {cap : List D} (p : Int -> Bool) (hc : pureD.pureL cap = true)
  (hp : ∀ r : Nat, r <= 2147483647 -> PC prog g (.int .i32 r :: cap) (.bool (p r))) (hbig : ∀ r : Nat, 128 <= r -> p r = true) :
  PC prog 109 [.str s, .fn g cap, .bool true] (.int .i64 (if z85 p s < s.size then (z85 p s : Int) else -1)) := by
 unfold maxLen at hs
 refine z3q 1 (by simp only [pureD.pureL, pureD, hc, Bool.and_self]) rfl (z30 [] func109 rfl (by decide +kernel) rfl ?_)
 show awp _ _ (Code.seq _ _) _ _
 repeat' (first | refine nxt ?_ | ((refine zqh fun K hK => ?_); (simp (disch := omega) only [go_sem, Nat.reduceBEq, ↓reduceIte])) | (refine hK _ ?_; clear hK K))
 have hdp : ∀ i (h : i < s.size), p (Utf8.decode s i).1 = p ((bl s)[i]'h).toNat /\ (p ((bl s)[i]'h).toNat = false -> (Utf8.decode s i).2 = 1) := fun i h => by
  rcases Nat.lt_or_ge ((bl s)[i]'h).toNat 128 with hb | hb
  ·rw [zt7 h hb]; exact ⟨rfl, fun _ => rfl⟩
  ·rw [hbig _ (zt8 h hb), hbig _ hb]; exact ⟨rfl, fun h => by cases h⟩
 (refine z6x (fun U st => ∃ (i : _), U = s.size - i /\ st.t 1 = .fn g cap /\ st.t 2 = .bool true /\ st.t 10 = .it 0 /\ st.H 0 = some (.raw (.stringIter s i)) /\ (i <= s.size) /\ (∀ j, (hj : j < i) -> (h : j < (bl s).length) -> p (bl s)[j].toNat = false) /\ (1 <= st.nx)) ?_ ?_); rotate_left; (rintro U st ⟨i, rfl, q1, q2, q10, qH0, qp0, qp1, qp2⟩); rotate_left
 ·(refine ⟨_, 0, rfl, ?_⟩); (simp (disch := omega) only [go_sem, Nat.reduceBEq, Nat.reduceLeDiff, true_and, and_true])
  intro j hj; omega
 by_cases hi : i < s.size
 ·have hp := hp (Utf8.decode s i).1 (decode_le s i)
  obtain ⟨hd1, hd2⟩ := hdp i hi
  repeat' (first | ((first | refine zqh fun K hK => ?_ | refine zqs (hp) ?_); (simp (disch := omega) only [go_sem, Nat.reduceBEq, ↓reduceIte, q1, q2, q10, qH0, hi])) | ((first | refine zqd _ rfl (fun hc => ?_) (fun hc => ?_) | refine zqm _ rfl (fun hc => ?_) (fun hc => ?_)) <;> (first | (cases hc; done) | ((try simp only [] at hc); (try omega)))) | refine nxt ?_ | refine zqu (by simp only [go_sem]; rfl) rfl ?_ | (refine hK _ ?_; clear hK K))
  ·refine z2v ?_
   rw [zk3 (k := i) (by omega) (fun j hj => qp1 j hj (by rw [z27]; omega)) (fun h => by rw [<- hd1]; assumption), if_pos hi]
  ·have hd1 := hd1.symm.trans (by assumption)
   have hd2 := hd2 hd1
   (refine Exists.intro _ (And.intro ?_ ⟨i + 1, rfl, ?_⟩)); rotate_left; (simp (disch := omega) only [go_sem, Nat.reduceBEq, q1, q2, q10, qH0, true_and, hd2]); rotate_left
   ·omega
   ·refine ⟨by omega, fun j hj h => ?_, by omega⟩
    by_cases e : j = i
    ·subst e; exact hd1
    ·exact qp1 j (by omega) h
 ·repeat' (first | ((refine zqh fun K hK => ?_); (simp (disch := omega) only [go_sem, ↓reduceIte, q10, qH0, hi])) | (refine zqd _ rfl ?_ ?_ <;> intro hc <;> (first | (cases hc; done) | ((try simp only [] at hc); (try omega)))) | refine nxt ?_ | refine zqz ?_ | refine zqu (by simp only [go_sem]; rfl) rfl ?_ | (refine hK _ ?_; clear hK K))
  refine z2v ?_
  have hi2 : i = s.size := by omega
  subst hi2
  rw [zk3 (k := s.size) (by omega) (fun j hj => qp1 j hj (by rw [z27]; omega)) (fun h => by omega), if_neg (by omega)]
theorem zcu (s : ByteArray) (hs : s.size <= maxLen) {g : FuncId} {cap : List D} (p : Int -> Bool) (hc : pureD.pureL cap = true)
  (hp : ∀ r : Nat, r <= 2147483647 -> PC prog g (.int .i32 r :: cap) (.bool (p r))) (hbig : ∀ r : Nat, 128 <= r -> p r = true) :
  PC prog 99 [.str s, .fn g cap] (.int .i64 (if z85 p s < s.size then (z85 p s : Int) else -1)) := by
 have h := zk4 s hs p hc hp hbig
 refine z3q 1 (by simp only [pureD.pureL, pureD, hc, Bool.and_self]) rfl (z30 [] func99 rfl (by decide +kernel) rfl ?_)
 show awp _ _ (Code.seq _ _) _ _
 repeat' (first | ((first | refine zqh fun K hK => ?_ | refine zqs (h) ?_); (simp (disch := omega) only [go_sem, Nat.reduceBEq])) | refine nxt ?_ | refine zqu (by simp only [go_sem]; rfl) rfl ?_ | (refine hK _ ?_; clear hK K))
 exact z2v rfl
theorem zdi (s : ByteArray) (hs : s.size <= maxLen) {g : FuncId} {cap : List D} (p : Int -> Bool) (hc : pureD.pureL cap = true)
  (hp : ∀ r : Nat, r <= 2147483647 -> PC prog g (.int .i32 r :: cap) (.bool (p r))) (hbig : ∀ r : Nat, 128 <= r -> p r = true) :
  PC prog 87 [.str s, .fn g cap] (.bool (decide (z85 p s < s.size))) := by
 have h := zcu s hs p hc hp hbig
 refine z3q 1 (by simp only [pureD.pureL, pureD, hc, Bool.and_self]) rfl (z30 [] func87 rfl (by decide +kernel) rfl ?_)
 show awp _ _ (Code.seq _ _) _ _
 repeat' (first | ((first | refine zqh fun K hK => ?_ | refine zqs (h) ?_); (simp (disch := omega) only [go_sem, Nat.reduceBEq, ↓reduceIte])) | refine nxt ?_ | refine zqu (by simp only [go_sem]; rfl) rfl ?_ | (refine hK _ ?_; clear hK K))
 refine z05 ?_
 by_cases h : z85 p s < s.size
 ·rw [if_pos h]; simp [h]
 ·rw [if_neg h]; simp [h]
def zcv (r : Int) : Bool := decide (r < 48) || decide (57 < r)
def zam (r : Int) : Bool := decide (r < 65) || decide (90 < r)
theorem zpy (r : Nat) : PC prog 100 [.int .i32 r] (.bool (zcv r)) := by
 refine z3q 1 (by simp only [pureD.pureL, pureD, Bool.and_self]) rfl (z30 [] func100 rfl (by decide +kernel) rfl ?_)
 show awp _ _ (Code.seq _ _) _ _
 repeat' (first | ((refine zqh fun K hK => ?_); (simp (disch := omega) only [go_sem, Nat.reduceBEq, ↓reduceIte])) | refine nxt ?_ | refine zqu (by simp only [go_sem]; rfl) rfl ?_ | (refine hK _ ?_; clear hK K) | (refine zqf (fun hb => ?_) (fun hb => ?_) <;> (have hb2 := hb; try simp only [z06] at hb2) <;> ((first | have F := eq_false hb2 | have F := eq_true hb2); (simp (disch := omega) only [go_sem, Nat.reduceBEq, ↓reduceIte, F]); clear hb F; (try omega))))
 ·exact z05 (by unfold zcv; rw [decide_eq_false (show ¬ (r : Int) < 48 by assumption)]; rfl)
 ·exact z05 (by unfold zcv; rw [decide_eq_true (show (r : Int) < 48 by assumption)]; rfl)
theorem zt9 (r : Nat) : PC prog 86 [.int .i32 r] (.bool (zam r)) := by
 refine z3q 1 (by simp only [pureD.pureL, pureD, Bool.and_self]) rfl (z30 [] func86 rfl (by decide +kernel) rfl ?_)
 show awp _ _ (Code.seq _ _) _ _
 repeat' (first | ((refine zqh fun K hK => ?_); (simp (disch := omega) only [go_sem, Nat.reduceBEq, ↓reduceIte])) | refine nxt ?_ | refine zqu (by simp only [go_sem]; rfl) rfl ?_ | (refine hK _ ?_; clear hK K) | (refine zqf (fun hb => ?_) (fun hb => ?_) <;> (have hb2 := hb; try simp only [z06] at hb2) <;> ((first | have F := eq_false hb2 | have F := eq_true hb2); (simp (disch := omega) only [go_sem, Nat.reduceBEq, ↓reduceIte, F]); clear hb F; (try omega))))
 ·exact z05 (by unfold zam; rw [decide_eq_false (show ¬ (r : Int) < 65 by assumption)]; rfl)
 ·exact z05 (by unfold zam; rw [decide_eq_true (show (r : Int) < 65 by assumption)]; rfl)
def zk5 (s : ByteArray) : ByteArray := if zim s < s.size then s.extract 0 (zim s) else s
def zpz (s : ByteArray) : ByteArray := if zim s < s.size then s.extract (zim s) s.size else ByteArray.empty
theorem zgt (s : ByteArray) (a b : Nat) : bl (s.extract a b) = ((bl s).take b).drop a := by
 unfold bl
 rw [ByteArray.data_extract, Array.toList_extract, List.extract]
 rw [List.drop_take]
theorem zo0 (s : ByteArray) : bl (zk5 s) = (bl s).take (zim s) := by
 unfold zk5
 have := zf7 s
 split
 ·rw [zgt, List.drop_zero]
 ·rw [List.take_of_length_le (by rw [z27]; omega)]
theorem zo1 (s : ByteArray) : bl (zpz s) = (bl s).drop (zim s) := by
 unfold zpz
 have := zf7 s
 split
 ·rw [zgt, List.take_of_length_le (by rw [z27]; omega)]
 ·rw [List.drop_eq_nil_of_le (by rw [z27]; omega)]; rfl
theorem zq0 (s : ByteArray) : (zk5 s).size = zim s := by
 have := zf7 s
 rw [<- z27, zo0, List.length_take, z27]; omega
theorem zq1 (s : ByteArray) : (zpz s).size = s.size - zim s := by rw [<- z27, zo1, List.length_drop, z27]
theorem zq2 : (fun b : UInt8 => !zcv b.toNat) = dig := by
 funext b
 unfold zcv dig
 rcases Nat.lt_or_ge b.toNat 48 with h | h
 ·rw [decide_eq_true (show (b.toNat : Int) < 48 by omega), decide_eq_false (show ¬ (48 <= b.toNat /\ b.toNat <= 57) by omega)]; rfl
 ·rw [decide_eq_false (show ¬ (b.toNat : Int) < 48 by omega)]
  rcases Nat.lt_or_ge 57 b.toNat with h2 | h2
  ·rw [decide_eq_true (show (57 : Int) < b.toNat by omega), decide_eq_false (show ¬ (48 <= b.toNat /\ b.toNat <= 57) by omega)]; rfl
  ·rw [decide_eq_false (show ¬ (57 : Int) < b.toNat by omega), decide_eq_true (show 48 <= b.toNat /\ b.toNat <= 57 by omega)]; rfl
theorem zgu : (fun b : UInt8 => !zam b.toNat) = cap := by
 funext b
 unfold zam cap
 rcases Nat.lt_or_ge b.toNat 65 with h | h
 ·rw [decide_eq_true (show (b.toNat : Int) < 65 by omega), decide_eq_false (show ¬ (65 <= b.toNat /\ b.toNat <= 90) by omega)]; rfl
 ·rw [decide_eq_false (show ¬ (b.toNat : Int) < 65 by omega)]
  rcases Nat.lt_or_ge 90 b.toNat with h2 | h2
  ·rw [decide_eq_true (show (90 : Int) < b.toNat by omega), decide_eq_false (show ¬ (65 <= b.toNat /\ b.toNat <= 90) by omega)]; rfl
  ·rw [decide_eq_false (show ¬ (90 : Int) < b.toNat by omega), decide_eq_true (show 65 <= b.toNat /\ b.toNat <= 90 by omega)]; rfl
theorem z7m {α : Type} (q : α -> Bool) : ∀ (l : List α), ((l.takeWhile q).length < l.length) ↔ l.all q = false
 | [] => by simp
 | x :: l => by
  rw [List.takeWhile_cons, List.all_cons]
  cases q x
  ·simp
  ·simp [z7m q l]
theorem zi8 (s : ByteArray) : decide (z85 zam s < s.size) = !(bl s).all cap := by
 have h := z7m (fun b : UInt8 => !zam b.toNat) (bl s)
 rw [zgu] at h
 unfold z85
 rw [zgu, <- z27]
 cases ha : (bl s).all cap
 ·exact decide_eq_true (h.2 ha)
 ·exact decide_eq_false (fun h2 => by rw [h.1 h2] at ha; cases ha)
theorem zta (s : ByteArray) (hs : s.size <= maxLen) : PC prog 85 [.str s] (.tup [.str (zk5 s), .str (zpz s)]) := by
 have h := zcu s hs (cap := []) zcv rfl (fun r _ => zpy r) (fun r hr => by unfold zcv; rw [decide_eq_true (show (57 : Int) < r by omega), Bool.or_true])
 rw [show z85 zcv s = zim s from by unfold z85 zim; rw [zq2]] at h
 have hle := zf7 s
 unfold maxLen at hs
 refine z3q 2 (by simp only [pureD.pureL, pureD, Bool.and_self]) rfl (z30 [] func85 rfl (by decide +kernel) rfl ?_)
 show awp _ _ (Code.seq _ _) _ _
 unfold zk5 zpz
 by_cases V : zim s < s.size
 ·rw [if_pos V] at h
  rw [if_pos V, if_pos V]
  repeat' (first | refine nxt ?_ | ((first | refine zqh fun K hK => ?_ | refine zqe (by decide +kernel) fun K hK => ?_ | refine zqs (h) ?_); (simp (disch := omega) only [go_sem, Nat.reduceBEq, ↓reduceIte])) | (refine zqd _ rfl ?_ ?_ <;> intro hc <;> (first | (cases hc; done) | ((try simp only [decide_eq_false_iff_not] at hc); (try omega)))) | refine zqu (by simp only [go_sem]; rfl) rfl ?_ | (refine hK _ ?_; clear hK K))
  exact z1e rfl (Le.refl _)
 ·rw [if_neg V] at h
  rw [if_neg V, if_neg V]
  repeat' (first | refine nxt ?_ | ((first | refine zqh fun K hK => ?_ | refine zqs (h) ?_); (simp (disch := omega) only [go_sem, Nat.reduceBEq, ↓reduceIte, Int.reduceLT])) | (refine zqd _ rfl ?_ ?_ <;> intro hc <;> (first | (cases hc; done) | ((try simp only [] at hc); (try omega)))) | refine zqu (by simp only [go_sem]; rfl) rfl ?_ | (refine hK _ ?_; clear hK K))
  exact z1e rfl (Le.refl _)
theorem zi9 (s : ByteArray) (hs : s.size <= maxLen) : PC prog 70 [.str s] (.bool (z87 s)) := by
 have h := zta s hs
 have hA := zq0 s
 have hB := zq1 s
 have hle := zf7 s
 have hc := zdi (zpz s) (by omega) (cap := []) zam rfl (fun r _ => zt9 r) (fun r hr => by unfold zam; rw [decide_eq_true (show (90 : Int) < r by omega), Bool.or_true])
 rw [zi8, zo1] at hc
 have hbl := z27 (zk5 s)
 unfold maxLen at hs
 have hz : Int.toNat 0 = 0 := rfl
 have hne : ∀ h : 0 < (zk5 s).size, (bl (zk5 s))[0].toNat = ((bl s).headD 0).toNat := fun h => by
  refine (congrArg UInt8.toNat (bhead h)).trans ?_
  rw [zo0]
  congr 1
  obtain ⟨n, hn⟩ : ∃ n, zim s = n + 1 := ⟨zim s - 1, by omega⟩
  rw [hn]
  cases bl s <;> rfl
 refine z3q 1 (by simp only [pureD.pureL, pureD, Bool.and_self]) rfl (z30 [] func70 rfl (by decide +kernel) rfl ?_)
 show awp _ _ (Code.seq _ _) _ _
 repeat' (first | ((first | refine zqh fun K hK => ?_ | refine zqs (h) ?_ | refine zqs (hc) ?_); (simp (disch := omega) only [go_sem, Nat.reduceBEq, ↓reduceIte])) | refine nxt ?_ | refine zqu (by simp only [go_sem]; rfl) rfl ?_ | (refine hK _ ?_; clear hK K) | (refine zqf (fun hb => ?_) (fun hb => ?_) <;> (have hb2 := hb; try simp only [z06] at hb2) <;> ((first | have F := eq_false hb2 | have F := eq_true hb2); (simp (disch := omega) only [go_sem, Nat.reduceBEq, ↓reduceIte, Int.reduceLE, F, bget, hz]); clear hb F; (try omega))))
 ·have hf := hne (by omega)
  exact z05 (by unfold z87; rw [decide_eq_true (by omega), Bool.true_and, Bool.not_not])
 ·exact z05 (by unfold z87; rw [decide_eq_false (by omega)]; rfl)
 ·have hf := hne (by omega)
  exact z05 (by unfold z87; rw [decide_eq_false (by omega)]; rfl)
 ·exact z05 (by unfold z87; rw [decide_eq_false (by omega)]; rfl)
 ·exact z05 (by unfold z87; rw [decide_eq_false (by omega)]; rfl)
def zsp (b : UInt8) : D := .int .u8 b.toNat
namespace Tr
def z3j {α : Type} (f : α -> Bool) (l : List α) : Nat := (l.takeWhile fun x => !f x).length
theorem z3d {α : Type} {f : α -> Bool} {l : List α} {k : Nat} (O : k <= l.length) (h1 : ∀ j, (hj : j < k) -> f (l[j]'(by omega)) = false) (h2 : ∀ h : k < l.length, f l[k] = true) : z3j f l = k := by
 unfold z3j
 exact z7s O (fun j hj => by rw [h1 j hj]; rfl) (fun h => by rw [h2 h]; rfl)
theorem zhz {α : Type} (f : α -> Bool) (l : List α) : decide (z3j f l < l.length) = l.any f := by
 have h := z7m (fun x => !f x) l
 have h2 : (l.all fun x => !f x) = !l.any f := by rw [<- List.not_any_eq_all_not]
 unfold z3j
 rw [h2] at h
 cases ha : l.any f
 ·exact decide_eq_false (fun h3 => by have := h.1 h3; rw [ha] at this; cases this)
 ·exact decide_eq_true (h.2 (by rw [ha]; rfl))
end Tr
theorem zi0 (nn : Bool) (l : List UInt8) (hl : l.length <= maxLen) {g : FuncId} {cap : List D} (f : UInt8 -> Bool) (hc : pureD.pureL cap = true) (hp : ∀ x ∈ l, PC prog g (zsp x :: cap) (.bool (f x))) :
  PC prog 114 [.rsl nn 1 (l.map zsp), .fn g cap] (.int .i64 (if z3j f l < l.length then (z3j f l : Int) else -1)) := by
 unfold maxLen at hl
 refine z3q 1 (by simp only [pureD.pureL, pureD, hc, z0a (f := zsp) (fun _ => rfl) l, Bool.and_self]) rfl (z30 [] func114 rfl (by decide +kernel) rfl ?_)
 show awp _ _ (Code.seq _ _) _ _
 repeat' (first | refine nxt ?_ | ((refine zqh fun K hK => ?_); (simp (disch := omega) only [go_sem, Nat.reduceBEq])) | (refine hK _ ?_; clear hK K))
 (refine z6x (fun U st => ∃ (i : _), U = l.length - i /\ st.t 0 = .rsl nn 1 (l.map zsp) /\ st.t 1 = .fn g cap /\ st.t 7 = .int .i64 l.length /\ st.t 8 = .int .i64 i /\ (i <= l.length) /\ (∀ j, (hj : j < i) -> (h : j < l.length) -> f l[j] = false)) ?_ ?_); rotate_left; (rintro U st ⟨i, rfl, q0, q1, q7, q8, qp0, qp1⟩); rotate_left
 ·(refine ⟨_, 0, rfl, ?_⟩); (simp (disch := omega) only [go_sem, Nat.reduceBEq, true_and, Int.natCast_zero])
  intro j hj; omega
 have hp := fun (h : i < l.length) => hp l[i] (List.getElem_mem h)
 repeat' (first | ((first | refine zqh fun K hK => ?_ | refine zqr fun K hK => ?_ | refine zqs (hp (by omega)) ?_); (simp (disch := omega) only [go_sem, Nat.reduceBEq, ↓reduceIte, reduceCtorEq, Nat.reduceAdd, q0, q1, q7, q8, zsp])) | ((first | refine zqd _ rfl (fun hc => ?_) (fun hc => ?_) | refine zqm _ rfl (fun hc => ?_) (fun hc => ?_)) <;> (((try simp only [z06] at hc); (try omega)))) | refine nxt ?_ | refine zqz ?_ | refine zqu (by simp only [go_sem]; rfl) rfl ?_ | (refine hK _ ?_; clear hK K))
 ·refine z2v ?_
  rw [z3d (k := i) (by omega) (fun j hj => qp1 j hj (by omega)) (fun h => by assumption), if_pos (by omega)]
 ·(refine Exists.intro _ (And.intro ?_ ⟨i + 1, rfl, ?_⟩)); rotate_left; (simp (disch := omega) only [go_sem, Nat.reduceBEq, q0, q1, q7, q8, true_and, Int.natCast_add, Int.natCast_one]); rotate_left
  ·omega
  ·refine ⟨by omega, fun j hj h => ?_⟩
   by_cases e : j = i
   ·subst e; assumption
   ·exact qp1 j (by omega) h
 ·refine z2v ?_
  have hi : i = l.length := by omega
  subst hi
  rw [z3d (k := l.length) (by omega) (fun j hj => qp1 j hj (by omega)) (fun h => by omega), if_neg (by omega)]
theorem zdg (nn : Bool) (l : List UInt8) (hl : l.length <= maxLen) {g : FuncId} {cap : List D} (f : UInt8 -> Bool) (hc : pureD.pureL cap = true) (hp : ∀ x ∈ l, PC prog g (zsp x :: cap) (.bool (f x))) :
  PC prog 112 [.rsl nn 1 (l.map zsp), .fn g cap] (.bool (l.any f)) := by
 have h := zi0 nn l hl f hc hp
 refine z3q 1 (by simp only [pureD.pureL, pureD, hc, z0a (f := zsp) (fun _ => rfl) l, Bool.and_self]) rfl (z30 [] func112 rfl (by decide +kernel) rfl ?_)
 show awp _ _ (Code.seq _ _) _ _
 repeat' (first | ((first | refine zqh fun K hK => ?_ | refine zqs (h) ?_); (simp (disch := omega) only [go_sem, Nat.reduceBEq, ↓reduceIte])) | refine nxt ?_ | refine zqu (by simp only [go_sem]; rfl) rfl ?_ | (refine hK _ ?_; clear hK K))
 refine z05 ?_
 rw [<- zhz]
 by_cases h : z3j f l < l.length
 ·rw [if_pos h]; simp [h]
 ·rw [if_neg h]; simp [h]
theorem zi1 (nn : Bool) (l : List ByteArray) (hl : l.length <= maxLen) {g : FuncId} {cap : List D} (f : ByteArray -> Bool) (hc : pureD.pureL cap = true) (hp : ∀ x ∈ l, PC prog g (D.str x :: cap) (.bool (f x))) :
  PC prog 110 [.rsl nn 1 (l.map D.str), .fn g cap] (.int .i64 (if z3j f l < l.length then (z3j f l : Int) else -1)) := by
 unfold maxLen at hl
 refine z3q 1 (by simp only [pureD.pureL, pureD, hc, z0a (f := D.str) (fun _ => rfl) l, Bool.and_self]) rfl (z30 [] func110 rfl (by decide +kernel) rfl ?_)
 show awp _ _ (Code.seq _ _) _ _
 repeat' (first | refine nxt ?_ | ((refine zqh fun K hK => ?_); (simp (disch := omega) only [go_sem, Nat.reduceBEq])) | (refine hK _ ?_; clear hK K))
 (refine z6x (fun U st => ∃ (i : _), U = l.length - i /\ st.t 0 = .rsl nn 1 (l.map D.str) /\ st.t 1 = .fn g cap /\ st.t 7 = .int .i64 l.length /\ st.t 8 = .int .i64 i /\ (i <= l.length) /\ (∀ j, (hj : j < i) -> (h : j < l.length) -> f l[j] = false)) ?_ ?_); rotate_left; (rintro U st ⟨i, rfl, q0, q1, q7, q8, qp0, qp1⟩); rotate_left
 ·(refine ⟨_, 0, rfl, ?_⟩); (simp (disch := omega) only [go_sem, Nat.reduceBEq, true_and, Int.natCast_zero])
  intro j hj; omega
 have hp := fun (h : i < l.length) => hp l[i] (List.getElem_mem h)
 repeat' (first | ((first | refine zqh fun K hK => ?_ | refine zqr fun K hK => ?_ | refine zqs (hp (by omega)) ?_); (simp (disch := omega) only [go_sem, Nat.reduceBEq, ↓reduceIte, reduceCtorEq, Nat.reduceAdd, q0, q1, q7, q8])) | ((first | refine zqd _ rfl (fun hc => ?_) (fun hc => ?_) | refine zqm _ rfl (fun hc => ?_) (fun hc => ?_)) <;> (((try simp only [z06] at hc); (try omega)))) | refine nxt ?_ | refine zqz ?_ | refine zqu (by simp only [go_sem]; rfl) rfl ?_ | (refine hK _ ?_; clear hK K))
 ·refine z2v ?_
  rw [z3d (k := i) (by omega) (fun j hj => qp1 j hj (by omega)) (fun h => by assumption), if_pos (by omega)]
 ·(refine Exists.intro _ (And.intro ?_ ⟨i + 1, rfl, ?_⟩)); rotate_left; (simp (disch := omega) only [go_sem, Nat.reduceBEq, q0, q1, q7, q8, true_and, Int.natCast_add, Int.natCast_one]); rotate_left
  ·omega
  ·refine ⟨by omega, fun j hj h => ?_⟩
   by_cases e : j = i
   ·subst e; assumption
   ·exact qp1 j (by omega) h
 ·refine z2v ?_
  have hi : i = l.length := by omega
  subst hi
  rw [z3d (k := l.length) (by omega) (fun j hj => qp1 j hj (by omega)) (fun h => by omega), if_neg (by omega)]
theorem zdh (nn : Bool) (l : List ByteArray) (hl : l.length <= maxLen) {g : FuncId} {cap : List D} (f : ByteArray -> Bool) (hc : pureD.pureL cap = true) (hp : ∀ x ∈ l, PC prog g (D.str x :: cap) (.bool (f x))) :
  PC prog 101 [.rsl nn 1 (l.map D.str), .fn g cap] (.bool (l.any f)) := by
 have h := zi1 nn l hl f hc hp
 refine z3q 1 (by simp only [pureD.pureL, pureD, hc, z0a (f := D.str) (fun _ => rfl) l, Bool.and_self]) rfl (z30 [] func101 rfl (by decide +kernel) rfl ?_)
 show awp _ _ (Code.seq _ _) _ _
 repeat' (first | ((first | refine zqh fun K hK => ?_ | refine zqs (h) ?_); (simp (disch := omega) only [go_sem, Nat.reduceBEq, ↓reduceIte])) | refine nxt ?_ | refine zqu (by simp only [go_sem]; rfl) rfl ?_ | (refine hK _ ?_; clear hK K))
 refine z05 ?_
 rw [<- zhz]
 by_cases h : z3j f l < l.length
 ·rw [if_pos h]; simp [h]
 ·rw [if_neg h]; simp [h]
theorem zi2 (nn : Bool) (l : List T) (hl : l.length <= maxLen) {g : FuncId} {cap : List D} (f : T -> Bool) (hc : pureD.pureL cap = true) (hp : ∀ x ∈ l, PC prog g (z1o x :: cap) (.bool (f x))) :
  PC prog 44 [.rsl nn 8 (l.map z1o), .fn g cap] (.int .i64 (if z3j f l < l.length then (z3j f l : Int) else -1)) := by
 unfold maxLen at hl
 refine z3q 1 (by simp only [pureD.pureL, pureD, hc, z0a (f := z1o) (z0h) l, Bool.and_self]) rfl (z30 [] func44 rfl (by decide +kernel) rfl ?_)
 show awp _ _ (Code.seq _ _) _ _
 repeat' (first | refine nxt ?_ | ((refine zqh fun K hK => ?_); (simp (disch := omega) only [go_sem, Nat.reduceBEq])) | (refine hK _ ?_; clear hK K))
 (refine z6x (fun U st => ∃ (i : _), U = l.length - i /\ st.t 0 = .rsl nn 8 (l.map z1o) /\ st.t 1 = .fn g cap /\ st.t 7 = .int .i64 l.length /\ st.t 8 = .int .i64 i /\ (i <= l.length) /\ (∀ j, (hj : j < i) -> (h : j < l.length) -> f l[j] = false)) ?_ ?_); rotate_left; (rintro U st ⟨i, rfl, q0, q1, q7, q8, qp0, qp1⟩); rotate_left
 ·(refine ⟨_, 0, rfl, ?_⟩); (simp (disch := omega) only [go_sem, Nat.reduceBEq, true_and, Int.natCast_zero])
  intro j hj; omega
 have hp := fun (h : i < l.length) => hp l[i] (List.getElem_mem h)
 repeat' (first | ((first | refine zqh fun K hK => ?_ | refine zqr fun K hK => ?_ | refine zqs (hp (by omega)) ?_); (simp (disch := omega) only [go_sem, Nat.reduceBEq, ↓reduceIte, reduceCtorEq, Nat.reduceAdd, q0, q1, q7, q8])) | ((first | refine zqd _ rfl (fun hc => ?_) (fun hc => ?_) | refine zqm _ rfl (fun hc => ?_) (fun hc => ?_)) <;> (((try simp only [z06] at hc); (try omega)))) | refine nxt ?_ | refine zqz ?_ | refine zqu (by simp only [go_sem]; rfl) rfl ?_ | (refine hK _ ?_; clear hK K))
 ·refine z2v ?_
  rw [z3d (k := i) (by omega) (fun j hj => qp1 j hj (by omega)) (fun h => by assumption), if_pos (by omega)]
 ·(refine Exists.intro _ (And.intro ?_ ⟨i + 1, rfl, ?_⟩)); rotate_left; (simp (disch := omega) only [go_sem, Nat.reduceBEq, q0, q1, q7, q8, true_and, Int.natCast_add, Int.natCast_one]); rotate_left
  ·omega
  ·refine ⟨by omega, fun j hj h => ?_⟩
   by_cases e : j = i
   ·subst e; assumption
   ·exact qp1 j (by omega) h
 ·refine z2v ?_
  have hi : i = l.length := by omega
  subst hi
  rw [z3d (k := l.length) (by omega) (fun j hj => qp1 j hj (by omega)) (fun h => by omega), if_neg (by omega)]
def odd (b : UInt8) : Bool := decide ((b.toNat : Int) < 33) || decide (126 < (b.toNat : Int))
theorem odd_ink : (fun b : UInt8 => !odd b) = ink := by
 funext b
 unfold odd ink
 rcases Nat.lt_or_ge b.toNat 33 with h | h
 ·rw [decide_eq_true (show (b.toNat : Int) < 33 by omega), decide_eq_false (show ¬ (33 <= b.toNat /\ b.toNat <= 126) by omega)]; rfl
 ·rw [decide_eq_false (show ¬ (b.toNat : Int) < 33 by omega)]
  rcases Nat.lt_or_ge 126 b.toNat with h2 | h2
  ·rw [decide_eq_true (show (126 : Int) < b.toNat by omega), decide_eq_false (show ¬ (33 <= b.toNat /\ b.toNat <= 126) by omega)]; rfl
  ·rw [decide_eq_false (show ¬ (126 : Int) < b.toNat by omega), decide_eq_true (show 33 <= b.toNat /\ b.toNat <= 126 by omega)]; rfl
theorem any_odd (l : List UInt8) : l.any odd = !l.all ink := by
 rw [<- odd_ink, <- List.not_any_eq_all_not, Bool.not_not]
theorem zuc (s : ByteArray) : znu s = (bl s).map zsp := rfl
theorem zyc (b : UInt8) : PC prog 111 [zsp b] (.bool (odd b)) := by
 refine z3q 1 rfl rfl (z30 [] func111 rfl (by decide +kernel) rfl ?_)
 show awp _ _ (Code.seq _ _) _ _
 repeat' (first | ((refine zqh fun K hK => ?_); (simp (disch := omega) only [go_sem, Nat.reduceBEq, ↓reduceIte, zsp])) | refine nxt ?_ | refine zqu (by simp only [go_sem]; rfl) rfl ?_ | (refine hK _ ?_; clear hK K) | (refine zqf (fun hb => ?_) (fun hb => ?_) <;> (have hb2 := hb; try simp only [z06] at hb2) <;> ((first | have F := eq_false hb2 | have F := eq_true hb2); (simp (disch := omega) only [go_sem, Nat.reduceBEq, ↓reduceIte, F]); clear hb F; (try omega))))
 ·exact z05 (by unfold odd; rw [decide_eq_false (show ¬ (b.toNat : Int) < 33 by assumption)]; rfl)
 ·exact z05 (by unfold odd; rw [decide_eq_true (show (b.toNat : Int) < 33 by assumption)]; rfl)
theorem zge {s : ByteArray} (h : ¬ s = ⟨#[]⟩) : 1 <= s.size := by
 rcases Nat.eq_zero_or_pos s.size with h0 | h0
 ·exfalso; apply h
  obtain ⟨a⟩ := s
  rw [ByteArray.mk.injEq]
  exact Array.eq_empty_of_size_eq_zero h0
 ·exact h0
theorem zyd (s : ByteArray) (hs : s.size <= maxLen) : PC prog 103 [.str s] (.bool (zin s)) := by
 have h := zdg true (bl s) (by rw [z27]; exact hs) (cap := []) odd rfl (fun b _ => zyc b)
 rw [any_odd] at h
 unfold maxLen at hs
 refine z3q 1 rfl rfl (z30 [] func103 rfl (by decide +kernel) rfl ?_)
 show awp _ _ (Code.seq _ _) _ _
 repeat' (first | ((first | refine zqh fun K hK => ?_ | refine zqs (h) ?_); (simp (disch := omega) only [go_sem, Nat.reduceBEq, ↓reduceIte])) | refine nxt ?_ | refine zqu (by simp only [go_sem]; rfl) rfl ?_ | (refine hK _ ?_; clear hK K) | (refine zqf (fun hb => ?_) (fun hb => ?_) <;> (have hb2 := hb; try simp only [z06] at hb2) <;> ((first | have F := eq_false hb2 | have F := eq_true hb2); (simp (disch := omega) only [go_sem, Nat.reduceBEq, ↓reduceIte, F, zuc]); clear hb F; (try omega))))
 ·have hpos := zge (by assumption)
  exact z05 (by unfold zin; rw [decide_eq_true (by omega), Bool.true_and, Bool.not_not])
 ·exact z05 (by unfold zin; rw [decide_eq_false (by omega)]; rfl)
 ·have he : s = ⟨#[]⟩ := by assumption
  subst he
  exact z05 rfl
theorem zr2 (s : ByteArray) (hs : s.size <= maxLen) : PC prog 102 [.str s] (.bool (!zin s)) := by
 have h := zyd s hs
 refine z3q 1 rfl rfl (z30 [] func102 rfl (by decide +kernel) rfl ?_)
 show awp _ _ (Code.seq _ _) _ _
 repeat' (first | ((first | refine zqh fun K hK => ?_ | refine zqs (h) ?_); (simp (disch := omega) only [go_sem, Nat.reduceBEq])) | refine nxt ?_ | refine zqu (by simp only [go_sem]; rfl) rfl ?_ | (refine hK _ ?_; clear hK K))
 exact z05 rfl
theorem zr3 (nn : Bool) (l : List ByteArray) (hl : l.length <= maxLen) (hs : ∀ s ∈ l, s.size <= maxLen) : PC prog 88 [.rsl nn 1 (l.map .str)] (.bool (seqB l)) := by
 have h := zdh nn l hl (cap := []) (fun s => !zin s) rfl (fun s hs' => zr2 s (hs s hs'))
 rw [show (l.any fun s => !zin s) = !l.all zin from by rw [<- List.not_all_eq_any_not]] at h
 unfold maxLen at hl
 refine z3q 1 (by simp only [pureD.pureL, pureD, z0a (f := D.str) (fun _ => rfl) l, Bool.and_self]) rfl (z30 [] func88 rfl (by decide +kernel) rfl ?_)
 show awp _ _ (Code.seq _ _) _ _
 repeat' (first | ((first | refine zqh fun K hK => ?_ | refine zqs (h) ?_); (simp (disch := omega) only [go_sem, Nat.reduceBEq, ↓reduceIte])) | refine nxt ?_ | refine zqu (by simp only [go_sem]; rfl) rfl ?_ | (refine hK _ ?_; clear hK K) | (refine zqf (fun hb => ?_) (fun hb => ?_) <;> (have hb2 := hb; try simp only [z06] at hb2) <;> ((first | have F := eq_false hb2 | have F := eq_true hb2); (simp (disch := omega) only [go_sem, Nat.reduceBEq, ↓reduceIte, F]); clear hb F; (try omega))))
 ·exact z05 (by unfold seqB; rw [decide_eq_true (by omega), Bool.true_and, Bool.not_not])
 ·exact z05 (by unfold seqB; rw [decide_eq_false (by omega)]; rfl)
theorem zud (l : List Wd) (hl : l.length <= 1000000) (hs : ∀ w ∈ l, w.text.size <= maxLen) : PC prog 71 [z2g l] (.bool (zog l)) := by
 have h := zr3 false (l.map (·.text)) (by unfold maxLen; simp; omega) (fun s hs' => by obtain ⟨w, hw, rfl⟩ := List.mem_map.1 hs'; exact hs w hw)
 refine z3q 1 (by simp only [pureD.pureL, z24, Bool.and_self]) rfl (z30 [3] func71 rfl (by decide +kernel) rfl ?_)
 show awp _ _ (Code.seq _ _) _ _
 repeat' (first | refine nxt ?_ | ((refine zqh fun K hK => ?_); (simp (disch := omega) only [go_sem, Nat.reduceBEq, ↓reduceIte, z2g])) | (refine hK _ ?_; clear hK K))
 (refine z6x (fun U st => ∃ (i : _), U = l.length - i /\ st.t 0 = z2g l /\ st.t 6 = z2g l /\ st.t 7 = .int .i64 l.length /\ st.t 8 = .int .i64 i /\ st.t 3 = .osl 0 i /\ st.H 0 = some (.row 9 i (((l.take i).map (·.text)).map .str)) /\ (i <= l.length) /\ (1 <= st.nx)) ?_ ?_); rotate_left; (rintro U st ⟨i, rfl, q0, q6, q7, q8, q3, qH0, qp0, qp1⟩); rotate_left
 ·(refine ⟨_, 0, rfl, ?_⟩); (simp (disch := omega) only [go_sem, Nat.reduceBEq, Nat.reduceLeDiff, and_self, Int.natCast_zero, List.map_nil, z2g])
 have htk : ∀ h : i < l.length, l.take (i + 1) = l.take i ++ [l[i]] := fun h => List.take_succ_eq_append_getElem h
 repeat' (first | ((first | refine zqh fun K hK => ?_ | refine zqr fun K hK => ?_); (simp (disch := omega) only [go_sem, Nat.reduceBEq, ↓reduceIte, reduceCtorEq, Nat.reduceAdd, Nat.reduceLeDiff, Nat.reduceLT, q0, q6, q7, q8, q3, qH0, z2g])) | (refine zqd _ rfl ?_ ?_ <;> intro hc <;> (((try simp only [z06] at hc); (try omega)))) | refine nxt ?_ | refine zqz ?_ | refine zqu (by simp only [go_sem]; rfl) rfl ?_ | (refine hK _ ?_; clear hK K) | (refine zqf (fun hb => ?_) (fun hb => ?_) <;> (have hb2 := hb; try simp only [z06] at hb2) <;> ((first | have F := eq_false hb2 | have F := eq_true hb2); (simp (disch := omega) only [go_sem, Nat.reduceBEq, ↓reduceIte, F, q3]); clear hb F; (try omega))))
 ·have htk := htk (by omega)
  (refine Exists.intro _ (And.intro ?_ ⟨i + 1, rfl, ?_⟩)); rotate_left; (simp (disch := omega) only [go_sem, Nat.reduceBEq, Nat.reduceLeDiff, q0, q6, q7, q8, q3, qH0, true_and, and_true, Int.natCast_add, Int.natCast_one, List.map_append, List.map_cons, List.map_nil, htk]); rotate_left
  ·omega
  ·omega
 ·have hi : i = l.length := by omega
  subst hi
  rw [List.take_length] at qH0
  refine z3t (PC.borrow h rfl 3 (z0e (z8h 1 qH0 z8x zdb (by simp) (zic _)) z4s)) ?_
  (try (simp (disch := omega) only [go_sem, Nat.reduceBEq, ↓reduceIte])); repeat' (first | refine nxt ?_ | refine zqu (by simp only [go_sem]; rfl) rfl ?_ | (refine hK _ ?_; clear hK K))
  exact z05 (by rw [zoh, decide_eq_true (by omega)]; rfl)
 ·exact z05 (by rw [zoh, decide_eq_false (by omega)]; rfl)
def nameL : List ByteArray := [⟨#[98, 111, 111, 107]⟩, ⟨#[112, 97, 114, 116]⟩, ⟨#[115, 101, 99, 116, 105, 111, 110]⟩, ⟨#[112, 97, 114, 97, 103, 114, 97, 112, 104]⟩, ⟨#[116, 97, 98, 108, 101]⟩, ⟨#[114, 111, 119]⟩, ⟨#[99, 101, 108, 108]⟩, ⟨#[110, 111, 116, 101]⟩]
def zmq (k : Int) : ByteArray := if 0 <= k /\ k < 8 then nameL.getD k.toNat ByteArray.empty else ByteArray.empty
theorem kind8 {k : Int} (h : 0 <= k /\ k < 8) : k = 0 \/ k = 1 \/ k = 2 \/ k = 3 \/ k = 4 \/ k = 5 \/ k = 6 \/ k = 7 := by omega
theorem zmr (k : Int) : PC prog 69 [.int .i64 k] (.str (zmq k)) := by
 refine z3q 1 rfl rfl (z30 [] func69 rfl (by decide +kernel) rfl ?_)
 show awp _ _ (Code.seq _ _) _ _
 have h8 : ((8 : Nat) : Int) = 8 := rfl
 by_cases O : 0 <= k /\ k < 8
 ·rcases kind8 O with rfl | rfl | rfl | rfl | rfl | rfl | rfl | rfl
  all_goals clear O
  all_goals (repeat' (first | refine nxt ?_ | ((refine zqh fun K hK => ?_); (simp (disch := omega) only [go_sem, Nat.reduceBEq, ↓reduceIte, reduceCtorEq, Nat.reduceAdd, Int.reduceLT, Int.reduceLE, Int.reduceToNat, h8])) | (refine zqd _ rfl ?_ ?_ <;> intro hc <;> (first | (cases hc; done) | ((try simp only [] at hc); (try omega)))) | refine zqu (by simp only [go_sem]; rfl) rfl ?_ | (refine hK _ ?_; clear hK K)))
  all_goals exact z1e rfl (Le.refl _)
 ·rw [show zmq k = ByteArray.empty from if_neg O]
  repeat' (first | refine nxt ?_ | ((refine zqh fun K hK => ?_); (simp (disch := omega) only [go_sem, Nat.reduceBEq, ↓reduceIte])) | (refine zqd _ rfl ?_ ?_ <;> intro hc <;> (first | (cases hc; done) | ((try simp only [z06] at hc); (try omega)))) | refine zqu (by simp only [go_sem]; rfl) rfl ?_ | (refine hK _ ?_; clear hK K) | (refine zqf (fun hb => ?_) (fun hb => ?_) <;> (have hb2 := hb; try simp only [z06] at hb2) <;> ((first | have F := eq_false hb2 | have F := eq_true hb2); (simp (disch := omega) only [go_sem, Nat.reduceBEq, ↓reduceIte, F]); clear hb F; (try omega))))
  all_goals exact z1e rfl (Le.refl _)
def belowL : List (List Int) := [[1, 2], [2], [3, 4, 7], [3, 4, 7], [5], [6], [], []]
def z4z (p k : Int) : Bool := if 0 <= p /\ p < 8 then (belowL.getD p.toNat []).any (fun x => decide (k = x)) else false
theorem zue (l : List Int) (hl : l.length <= maxLen) (k : Int) : PC prog 104 [z45 l, .int .i64 k] (.int .i64 (if z3j (fun x => decide (k = x)) l < l.length then (z3j (fun x => decide (k = x)) l : Int) else -1)) := by
 unfold maxLen at hl
 refine z3q 1 (by simp only [pureD.pureL, pureD, z46, Bool.and_self]) rfl (z30 [] func104 rfl (by decide +kernel) rfl ?_)
 show awp _ _ (Code.seq _ _) _ _
 repeat' (first | refine nxt ?_ | ((refine zqh fun K hK => ?_); (simp (disch := omega) only [go_sem, Nat.reduceBEq, z45])) | (refine hK _ ?_; clear hK K))
 (refine z6x (fun U st => ∃ (i : _), U = l.length - i /\ st.t 0 = z45 l /\ st.t 1 = .int .i64 k /\ st.t 7 = .int .i64 l.length /\ st.t 8 = .int .i64 i /\ (i <= l.length) /\ (∀ j, (hj : j < i) -> (h : j < l.length) -> decide (k = l[j]) = false)) ?_ ?_); rotate_left; (rintro U st ⟨i, rfl, q0, q1, q7, q8, qp0, qp1⟩); rotate_left
 ·(refine ⟨_, 0, rfl, ?_⟩); (simp (disch := omega) only [go_sem, Nat.reduceBEq, true_and, Int.natCast_zero, z45])
  intro j hj; omega
 repeat' (first | ((first | refine zqh fun K hK => ?_ | refine zqr fun K hK => ?_); (simp (disch := omega) only [go_sem, Nat.reduceBEq, ↓reduceIte, reduceCtorEq, Nat.reduceAdd, q0, q1, q7, q8, z45])) | ((first | refine zqd _ rfl (fun hc => ?_) (fun hc => ?_) | refine zqm _ rfl (fun hc => ?_) (fun hc => ?_)) <;> (((try simp only [z06] at hc); (try omega)))) | refine nxt ?_ | refine zqz ?_ | refine zqu (by simp only [go_sem]; rfl) rfl ?_ | (refine hK _ ?_; clear hK K))
 ·refine z2v ?_
  have hf := z3d (f := fun x => decide (k = x)) (l := l) (k := i) (by omega) (fun j hj => qp1 j hj (by omega)) (fun h => decide_eq_true (by assumption))
  rw [hf, if_pos (by omega)]
 ·(refine Exists.intro _ (And.intro ?_ ⟨i + 1, rfl, ?_⟩)); rotate_left; (simp (disch := omega) only [go_sem, Nat.reduceBEq, q0, q1, q7, q8, true_and, Int.natCast_add, Int.natCast_one]); rotate_left
  ·omega
  ·refine ⟨by omega, fun j hj h => ?_⟩
   by_cases e : j = i
   ·subst e; exact decide_eq_false (by assumption)
   ·exact qp1 j (by omega) h
 ·refine z2v ?_
  have hi : i = l.length := by omega
  subst hi
  have hf := z3d (f := fun x => decide (k = x)) (l := l) (k := l.length) (by omega) (fun j hj => qp1 j hj (by omega)) (fun h => by omega)
  rw [hf, if_neg (by omega)]
theorem zko (l : List Int) (hl : l.length <= maxLen) (k : Int) : PC prog 89 [z45 l, .int .i64 k] (.bool (l.any fun x => decide (k = x))) := by
 have h := zue l hl k
 refine z3q 1 (by simp only [pureD.pureL, pureD, z46, Bool.and_self]) rfl (z30 [] func89 rfl (by decide +kernel) rfl ?_)
 show awp _ _ (Code.seq _ _) _ _
 repeat' (first | ((first | refine zqh fun K hK => ?_ | refine zqs (h) ?_); (simp (disch := omega) only [go_sem, Nat.reduceBEq, ↓reduceIte])) | refine nxt ?_ | refine zqu (by simp only [go_sem]; rfl) rfl ?_ | (refine hK _ ?_; clear hK K))
 refine z05 ?_
 rw [<- zhz]
 by_cases h : z3j (fun x => decide (k = x)) l < l.length
 ·rw [if_pos h]; simp [h]
 ·rw [if_neg h]; simp [h]
theorem zil (p k : Int) : PC prog 72 [.int .i64 p, .int .i64 k] (.bool (z4z p k)) := by
 refine z3q 1 rfl rfl (z30 [] func72 rfl (by decide +kernel) rfl ?_)
 show awp _ _ (Code.seq _ _) _ _
 have h8 : ((8 : Nat) : Int) = 8 := rfl
 by_cases O : 0 <= p /\ p < 8
 ·have hc := fun l hl => zko l hl k
  rcases kind8 O with rfl | rfl | rfl | rfl | rfl | rfl | rfl | rfl
  all_goals clear O
  ·repeat' (first | ((first | refine zqh fun K hK => ?_ | ((refine zqs (PC.le (hc [1, 2] (by decide)) ?_ ?_) ?_); (focus ((rfl); done)); (focus ((repeat' (first | exact trivial | exact Le.refl _ | exact Le.rsl | refine ⟨?_, ?_⟩)); done)))); (simp (disch := omega) only [go_sem, Nat.reduceBEq, ↓reduceIte, reduceCtorEq, Nat.reduceAdd, Int.reduceLT, Int.reduceLE, Int.reduceToNat, h8])) | refine nxt ?_ | refine zqu (by simp only [go_sem]; rfl) rfl ?_ | (refine hK _ ?_; clear hK K))
   exact z05 (by simp [z4z, belowL])
  ·repeat' (first | ((first | refine zqh fun K hK => ?_ | ((refine zqs (PC.le (hc [2] (by decide)) ?_ ?_) ?_); (focus ((rfl); done)); (focus ((repeat' (first | exact trivial | exact Le.refl _ | exact Le.rsl | refine ⟨?_, ?_⟩)); done)))); (simp (disch := omega) only [go_sem, Nat.reduceBEq, ↓reduceIte, reduceCtorEq, Nat.reduceAdd, Int.reduceLT, Int.reduceLE, Int.reduceToNat, h8])) | refine nxt ?_ | refine zqu (by simp only [go_sem]; rfl) rfl ?_ | (refine hK _ ?_; clear hK K))
   exact z05 (by simp [z4z, belowL])
  ·repeat' (first | ((first | refine zqh fun K hK => ?_ | ((refine zqs (PC.le (hc [3, 4, 7] (by decide)) ?_ ?_) ?_); (focus ((rfl); done)); (focus ((repeat' (first | exact trivial | exact Le.refl _ | exact Le.rsl | refine ⟨?_, ?_⟩)); done)))); (simp (disch := omega) only [go_sem, Nat.reduceBEq, ↓reduceIte, reduceCtorEq, Nat.reduceAdd, Int.reduceLT, Int.reduceLE, Int.reduceToNat, h8])) | refine nxt ?_ | refine zqu (by simp only [go_sem]; rfl) rfl ?_ | (refine hK _ ?_; clear hK K))
   exact z05 (by simp [z4z, belowL])
  ·repeat' (first | ((first | refine zqh fun K hK => ?_ | ((refine zqs (PC.le (hc [3, 4, 7] (by decide)) ?_ ?_) ?_); (focus ((rfl); done)); (focus ((repeat' (first | exact trivial | exact Le.refl _ | exact Le.rsl | refine ⟨?_, ?_⟩)); done)))); (simp (disch := omega) only [go_sem, Nat.reduceBEq, ↓reduceIte, reduceCtorEq, Nat.reduceAdd, Int.reduceLT, Int.reduceLE, Int.reduceToNat, h8])) | refine nxt ?_ | refine zqu (by simp only [go_sem]; rfl) rfl ?_ | (refine hK _ ?_; clear hK K))
   exact z05 (by simp [z4z, belowL])
  ·repeat' (first | ((first | refine zqh fun K hK => ?_ | ((refine zqs (PC.le (hc [5] (by decide)) ?_ ?_) ?_); (focus ((rfl); done)); (focus ((repeat' (first | exact trivial | exact Le.refl _ | exact Le.rsl | refine ⟨?_, ?_⟩)); done)))); (simp (disch := omega) only [go_sem, Nat.reduceBEq, ↓reduceIte, reduceCtorEq, Nat.reduceAdd, Int.reduceLT, Int.reduceLE, Int.reduceToNat, h8])) | refine nxt ?_ | refine zqu (by simp only [go_sem]; rfl) rfl ?_ | (refine hK _ ?_; clear hK K))
   exact z05 (by simp [z4z, belowL])
  ·repeat' (first | ((first | refine zqh fun K hK => ?_ | ((refine zqs (PC.le (hc [6] (by decide)) ?_ ?_) ?_); (focus ((rfl); done)); (focus ((repeat' (first | exact trivial | exact Le.refl _ | exact Le.rsl | refine ⟨?_, ?_⟩)); done)))); (simp (disch := omega) only [go_sem, Nat.reduceBEq, ↓reduceIte, reduceCtorEq, Nat.reduceAdd, Int.reduceLT, Int.reduceLE, Int.reduceToNat, h8])) | refine nxt ?_ | refine zqu (by simp only [go_sem]; rfl) rfl ?_ | (refine hK _ ?_; clear hK K))
   exact z05 (by simp [z4z, belowL])
  ·repeat' (first | ((first | refine zqh fun K hK => ?_ | ((refine zqs (PC.le (hc [] (by decide)) ?_ ?_) ?_); (focus ((rfl); done)); (focus ((repeat' (first | exact trivial | exact Le.refl _ | exact Le.nil _ | refine ⟨?_, ?_⟩)); done)))); (simp (disch := omega) only [go_sem, Nat.reduceBEq, ↓reduceIte, reduceCtorEq, Nat.reduceAdd, Int.reduceLT, Int.reduceLE, Int.reduceToNat, h8])) | refine nxt ?_ | refine zqu (by simp only [go_sem]; rfl) rfl ?_ | (refine hK _ ?_; clear hK K))
   exact z05 (by simp [z4z, belowL])
  ·repeat' (first | ((first | refine zqh fun K hK => ?_ | ((refine zqs (PC.le (hc [] (by decide)) ?_ ?_) ?_); (focus ((rfl); done)); (focus ((repeat' (first | exact trivial | exact Le.refl _ | exact Le.nil _ | refine ⟨?_, ?_⟩)); done)))); (simp (disch := omega) only [go_sem, Nat.reduceBEq, ↓reduceIte, reduceCtorEq, Nat.reduceAdd, Int.reduceLT, Int.reduceLE, Int.reduceToNat, h8])) | refine nxt ?_ | refine zqu (by simp only [go_sem]; rfl) rfl ?_ | (refine hK _ ?_; clear hK K))
   exact z05 (by simp [z4z, belowL])
 ·rw [show z4z p k = false from if_neg O]
  repeat' (first | ((refine zqh fun K hK => ?_); (simp (disch := omega) only [go_sem, Nat.reduceBEq, ↓reduceIte])) | refine nxt ?_ | refine zqu (by simp only [go_sem]; rfl) rfl ?_ | (refine hK _ ?_; clear hK K) | (refine zqf (fun hb => ?_) (fun hb => ?_) <;> (have hb2 := hb; try simp only [z06] at hb2) <;> ((first | have F := eq_false hb2 | have F := eq_true hb2); (simp (disch := omega) only [go_sem, Nat.reduceBEq, ↓reduceIte, reduceCtorEq, F]); clear hb F; (try omega))))
  all_goals exact z05 rfl
namespace Tr
def depF (l : List Nat) : Nat := l.foldl (fun d x => max d (1 + x)) 0
def depT (t : T) : Nat := zg6 (fun _ l => depF l) t
theorem zmo (t : T) : depT t = depF (t.kids.map depT) := by unfold depT; rw [z3m]
theorem zu6 (l : List Nat) (x : Nat) : depF (l ++ [x]) = max (depF l) (1 + x) := by unfold depF; rw [List.foldl_append]; rfl
theorem depF_le {l : List Nat} : ∀ (a : Nat), (a <= l.foldl (fun d x => max d (1 + x)) a) /\ ∀ x ∈ l, 1 + x <= l.foldl (fun d x => max d (1 + x)) a := by
 induction l with
 | nil => intro a; simp
 | cons y l ih =>
  intro a
  simp only [List.foldl_cons]
  obtain ⟨h1, h2⟩ := ih (max a (1 + y))
  refine ⟨by omega, fun x hx => ?_⟩
  rcases List.mem_cons.1 hx with rfl | hx
  ·omega
  ·exact h2 x hx
theorem z93 {t k : T} (h : k ∈ t.kids) : 1 + depT k <= depT t := by
 rw [zmo t]
 exact (depF_le 0).2 _ (List.mem_map.2 ⟨k, h, rfl⟩)
end Tr
theorem zy5 : ∀ t : T, zh4 t = true -> depT t <= 1000000000 -> PC prog 54 [z1o t] (.int .i64 (depT t)) := by
 refine z53 fun t ih hfit V => ?_
 obtain ⟨h1, h2, h3, h4⟩ := (zc6 t).1 hfit
 unfold maxLen at h3
 refine z3q 1 (by simp only [pureD.pureL, z0h, Bool.and_self]) rfl (z30 [] func54 rfl (by decide +kernel) rfl ?_)
 show awp _ _ (Code.seq _ _) _ _
 repeat' (first | refine nxt ?_ | ((refine zqh fun K hK => ?_); (simp (disch := omega) only [go_sem, Nat.reduceBEq, ↓reduceIte, reduceCtorEq, Nat.reduceAdd])) | (refine hK _ ?_; clear hK K))
 (refine z6x (fun U st => ∃ (i : _), U = t.kids.length - i /\ st.t 3 = .int .i64 (depF ((t.kids.take i).map depT) : Nat) /\ st.t 7 = z0l t.kids /\ st.t 8 = .int .i64 t.kids.length /\ st.t 9 = .int .i64 i /\ (i <= t.kids.length) /\ (1 <= st.nx)) ?_ ?_); rotate_left; (rintro U st ⟨i, rfl, q3, q7, q8, q9, qp0, qp1⟩); rotate_left
 ·(refine ⟨_, 0, rfl, ?_⟩); (simp (disch := omega) only [go_sem, Nat.reduceBEq, Nat.reduceLeDiff, true_and, and_true, and_self, Int.natCast_zero, List.map_nil, z0l])
  rfl
 have hin := fun (h : i < t.kids.length) => ih t.kids[i] (List.getElem_mem h) (h4 _ (List.getElem_mem h)) (by have := z93 (List.getElem_mem h); omega)
 have O := fun (h : i < t.kids.length) => z93 (t := t) (List.getElem_mem h)
 have hsn : ∀ h : i < t.kids.length, depF ((t.kids.take (i + 1)).map depT) = max (depF ((t.kids.take i).map depT)) (1 + depT t.kids[i]) := fun h => by
  rw [List.take_succ_eq_append_getElem h, List.map_append, List.map_cons, List.map_nil, zu6]
 repeat' (first | ((first | refine zqh fun K hK => ?_ | refine zqr fun K hK => ?_ | refine zqs (hin (by omega)) ?_); (simp (disch := omega) only [go_sem, Nat.reduceBEq, ↓reduceIte, reduceCtorEq, Nat.reduceAdd, Nat.reduceLeDiff, q3, q7, q8, q9, z0l])) | (refine zqd _ rfl ?_ ?_ <;> intro hc <;> (((try simp only [z06] at hc); (try omega)))) | refine nxt ?_ | refine zqz ?_ | refine zqu (by simp only [go_sem]; rfl) rfl ?_ | (refine hK _ ?_; clear hK K))
 ·have hs := hsn (by omega)
  (refine Exists.intro _ (And.intro ?_ ⟨i + 1, rfl, ?_⟩)); rotate_left; (simp (disch := omega) only [go_sem, Nat.reduceBEq, Nat.reduceLeDiff, q3, q7, q8, q9, true_and, and_true, Int.natCast_add, Int.natCast_one, hs]); rotate_left
  ·omega
  ·have := O (by omega); refine ⟨?_, by omega⟩
   rw [z28 (by omega)]; omega
 ·refine z2v ?_
  have hi : i = t.kids.length := by omega
  subst hi
  rw [List.take_length, <- zmo]
namespace Tr
def z1q (id : Idv) (t : T) : List T := zg6 (fun t l => if t.id = id then [t] else match l.find? (fun w => !w.isEmpty) with
 | some w => t :: w
 | none => []) t
theorem za0 (id : Idv) (t : T) : z1q id t = if t.id = id then [t] else match (t.kids.map (z1q id)).find? (fun w => !w.isEmpty) with
  | some w => t :: w
  | none => [] := by
 unfold z1q; rw [z3m]
theorem zkj {α β : Type} (f : α -> List β) : ∀ {l : List α} {i : Nat}, (∀ j, (hj : j < i) -> (h : j < l.length) -> f l[j] = []) -> l.length <= i -> (l.map f).find? (fun w => !w.isEmpty) = none
 | [], _, _, _ => rfl
 | x :: l, i, h, hi => by
  rw [List.map_cons, List.find?_cons]
  have h0 := h 0 (by simp at hi; omega) (by simp)
  simp only [List.getElem_cons_zero] at h0
  rw [h0]
  exact zkj f (l := l) (i := i - 1) (fun j hj hl => h (j + 1) (by omega) (by simpa using hl)) (by simp at hi; omega)
theorem zkk {α β : Type} (f : α -> List β) : ∀ {l : List α} {i : Nat} (hi : i < l.length), (∀ j, (hj : j < i) -> (h : j < l.length) -> f l[j] = []) -> f l[i] ≠ [] -> (l.map f).find? (fun w => !w.isEmpty) = some (f l[i])
 | x :: l, 0, _, _, hn => by
  simp only [List.getElem_cons_zero] at hn ⊢
  rw [List.map_cons, List.find?_cons]
  cases hf : f x with
  | nil => exact (hn hf).elim
  | cons a b => rfl
 | x :: l, i + 1, hi, h, hn => by
  rw [List.map_cons, List.find?_cons]
  have h0 := h 0 (by omega) (by simp)
  simp only [List.getElem_cons_zero] at h0
  rw [h0]
  simp only [List.getElem_cons_succ] at hn ⊢
  exact zkk f (l := l) (i := i) (by simpa using hi) (fun j hj hl => h (j + 1) (by omega) (by simpa using hl)) hn
end Tr
theorem zb1 : ∀ w : List T, z1j 8 (w.map z1o) = some (w.flatMap z04)
 | [] => rfl
 | t :: w => by
  rw [List.map_cons, List.flatMap_cons]
  unfold z1j
  rw [zb1 w]
  simp only [z1o, z41, z5i, if_true]
theorem zy6 (id : Idv) : ∀ t : T, (z1q id t).length <= 1 + depT t := by
 refine z53 fun t ih => ?_
 rw [za0]
 split
 ·simp
 ·split
  ·rename_i w hw
   have hm := List.mem_of_find?_eq_some hw
   obtain ⟨k, O, rfl⟩ := List.mem_map.1 hm
   have h1 := ih k O
   have h2 := z93 O
   simp only [List.length_cons]; omega
  ·simp
namespace Tr
def smB (t : T) : Bool := zg6 (fun t l => decide (t.head.length <= 1000000) && (decide (t.words.length <= 1000000) && (decide (t.kids.length <= 1000000) && l.all id))) t
theorem zzz (t : T) : smB t = true ↔ t.head.length <= 1000000 /\ t.words.length <= 1000000 /\ t.kids.length <= 1000000 /\ ∀ k ∈ t.kids, smB k = true := by
 unfold smB
 rw [z3m]
 simp only [List.all_map, Bool.and_eq_true, decide_eq_true_iff, List.all_eq_true]
 rfl
theorem sm_fit : ∀ t : T, smB t = true -> zh4 t = true := by
 refine z53 fun t ih h => ?_
 obtain ⟨h1, h2, h3, h4⟩ := (zzz t).1 h
 exact (zc6 t).2 ⟨by unfold maxLen; omega, by unfold maxLen; omega, by unfold maxLen; omega, fun k O => ih k O (h4 k O)⟩
end Tr
theorem zjz {P : Program} {H : HM} {id e : Nat} {cs : List D} (k : Nat) (hH : H id = some (.box e cs)) (ha : z03 P e = true) (hp : pureD.pureL cs = true) : z2p P H (k + 2) (.ptr id 0) = some (.rptr (.agg cs)) := by
 unfold z2p
 simp only [pureD, Bool.false_eq_true, if_false, hH, ha, true_or, and_self, if_true, zao k cs hp, Option.map_some]
namespace Tr
theorem zi5 (id : Idv) : ∀ t : T, ∀ x ∈ z1q id t, x ∈ nodesT t := by
 refine z53 fun t ih x hx => ?_
 rw [za0] at hx
 split at hx
 ·rw [List.mem_singleton.1 hx]; exact z07 t
 ·split at hx
  ·rename_i w hw
   obtain ⟨k, O, rfl⟩ := List.mem_map.1 (List.mem_of_find?_eq_some hw)
   rcases List.mem_cons.1 hx with rfl | hx
   ·exact z07 _
   ·exact z0j O (ih k O x hx)
  ·cases hx
def T.zero : T := .mk Idv.zero 0 ByteArray.empty [] [] []
def findR (id : Idv) (t : T) : T × Bool := match (z1q id t).getLast? with
 | some x => (x, true)
 | none => (T.zero, false)
def z6w (id : Idv) (t : T) : Idv × Int × Bool :=
 let w := z1q id t
 if h : w.length < 2 then (Idv.zero, -1, false) else
  let p := w[w.length - 2]
  let n := z3j (fun k => !(z1q id k).isEmpty) p.kids
  (p.id, if n < p.kids.length then (n : Int) else -1, true)
def zbw (id : Idv) (t : T) : List Idv := ((z1q id t).dropLast.map T.id).reverse
end Tr
theorem zaj {α : Type} : ∀ (l : List α) (h : l ≠ []), l.getLast? = some (l[l.length - 1]'(by have := List.length_pos_iff.2 h; omega))
 | l, h => by rw [List.getLast?_eq_getElem?, List.getElem?_eq_getElem (by have := List.length_pos_iff.2 h; omega)]
theorem zi6 : Le (.agg [.int .i64 0, .int .i64 0, .int .i64 0, .int .i64 0, .str ByteArray.empty, .nil, .nil, .nil]) (z1o T.zero) := by
 rw [z1o, z0t]
 exact Le.agg ⟨Le.refl _, Le.refl _, Le.refl _, Le.refl _, Le.refl _, Le.nil 4, Le.nil 4, Le.nil 8, trivial⟩
namespace Tr
def szB (t : T) : Bool := zg6 (fun t l => decide (t.label.size <= 1000000) && (decide (t.head.length <= 1000000) && ((t.head.all fun w => decide (w.text.size <= 1000000)) && (decide (t.words.length <= 1000000) && ((t.words.all fun w => decide (w.text.size <= 1000000)) && (decide (t.kids.length <= 1000000) && l.all id)))))) t
theorem z3o (t : T) : szB t = true ↔ t.label.size <= 1000000 /\ t.head.length <= 1000000 /\ (∀ w ∈ t.head, w.text.size <= 1000000) /\ t.words.length <= 1000000 /\ (∀ w ∈ t.words, w.text.size <= 1000000) /\ t.kids.length <= 1000000 /\ ∀ k ∈ t.kids, szB k = true := by
 unfold szB
 rw [z3m]
 simp only [List.all_map, Bool.and_eq_true, decide_eq_true_iff, List.all_eq_true]
 rfl
theorem sz_sm : ∀ t : T, szB t = true -> smB t = true := by
 refine z53 fun t ih h => ?_
 obtain ⟨_, h1, _, h2, _, h3, h4⟩ := (z3o t).1 h
 exact (zzz t).2 ⟨h1, h2, h3, fun k O => ih k O (h4 k O)⟩
theorem zfd (t : T) (h : szB t = true) : zh4 t = true := sm_fit t (sz_sm t h)
def z76 : ByteArray := ⟨#[]⟩
def zl0 (t : T) : Bool := decide (0 <= t.kind /\ t.kind <= 7) && (decide (t.kids.length <= 64) && (zog t.head && (zog t.words && (if t.kind = 0 then decide (t.label = z76) && (decide (t.head.length = 0) && decide (t.words.length = 0)) else z87 t.label))))
def ze6 (t : T) : Int × ByteArray := (t.kind, t.label)
def zb8 (t : T) : Bool := zg6 (fun t l => zl0 t && ((t.kids.all fun k => z4z t.kind k.kind) && (l.all id && decide ((t.kids.map ze6).Nodup)))) t
theorem zfe (t : T) : zb8 t = (zl0 t && ((t.kids.all fun k => z4z t.kind k.kind) && (t.kids.all zb8 && decide ((t.kids.map ze6).Nodup)))) := by
 unfold zb8
 rw [z3m, List.all_map]; rfl
theorem zrg {α β : Type} {f : α -> β} {l : List α} {k : Nat} (O : k < l.length) (h : ((l.take k).map f).Nodup) (h2 : ∀ j, (hj : j < k) -> f (l[j]'(by omega)) ≠ f l[k]) : ((l.take (k + 1)).map f).Nodup := by
 rw [List.take_succ_eq_append_getElem O, List.map_append, List.nodup_append]
 refine ⟨h, by simp, fun a ha b hb => ?_⟩
 simp only [List.map_cons, List.map_nil, List.mem_singleton] at hb
 subst hb
 obtain ⟨x, hx, rfl⟩ := List.mem_map.1 ha
 obtain ⟨j, hj, rfl⟩ := List.getElem_of_mem hx
 rw [List.length_take] at hj
 rw [List.getElem_take]
 exact h2 j (by omega)
theorem zyr {α β : Type} {f : α -> β} {l : List α} {j k : Nat} (hj : j < k) (O : k < l.length) (h : f (l[j]'(by omega)) = f l[k]) : ¬ (l.map f).Nodup := fun hn => by
 have h2 := (List.pairwise_iff_getElem.1 hn) j k (by simp; omega) (by simpa using O) hj
 simp only [List.getElem_map] at h2
 exact h2 h
end Tr
namespace Tr
theorem za2 (t : T) : cntT t = 1 + (t.kids.flatMap nodesT).length := by unfold cntT; rw [z15, List.length_cons, Nat.add_comm]
theorem z7u (l : List T) (i : Nat) : ((l.take i).flatMap nodesT).length <= (l.flatMap nodesT).length := by
 have : l.flatMap nodesT = (l.take i).flatMap nodesT ++ (l.drop i).flatMap nodesT := by rw [<- List.flatMap_append, List.take_append_drop]
 rw [this, List.length_append]; omega
theorem z7v (l : List T) (i : Nat) (h : i < l.length) : ((l.take (i + 1)).flatMap nodesT).length = ((l.take i).flatMap nodesT).length + cntT l[i] := by
 rw [List.take_succ_eq_append_getElem h, List.flatMap_append, List.length_append]; simp [cntT]
theorem zn7 {t k : T} (h : k ∈ t.kids) : 1 + cntT k <= cntT t := by
 rw [za2 t]
 obtain ⟨i, hi, rfl⟩ := List.getElem_of_mem h
 have h1 := z7v t.kids i hi
 have h2 := z7u t.kids (i + 1)
 omega
theorem cnt_pos (t : T) : 1 <= cntT t := by rw [za2]; omega
theorem z2f (t : T) : idsT t = t.id :: t.kids.flatMap idsT := by
 unfold idsT
 rw [z15, List.map_cons, List.map_flatMap]
theorem zb9 (t : T) : (idsT t).length = cntT t := by unfold idsT cntT; rw [List.length_map]
def idsB (t : T) : Bool := (idsT t).all (fun i => decide (i = Idv.zero)) || (decide ((t.id = Idv.zero) ↔ (t.kind = 0)) && decide ((idsT t).Nodup))
def z8n (t : T) : Bool := zb8 t && (decide (depT t <= 8) && (decide (cntT t <= 1024) && idsB t))
end Tr
theorem z9o : ∀ l : List Idv, z1j 3 (l.map z3a) = some (l.flatMap cellsId)
 | [] => rfl
 | t :: w => by
  rw [List.map_cons, List.flatMap_cons]
  unfold z1j
  rw [z9o w]
  rfl
theorem pc_All : ∀ t : T, szB t = true -> cntT t <= 1000000000 -> PC prog 10 [z1o t] (z0m (idsT t)) := by
 refine z53 fun t ih hs hc => ?_
 obtain ⟨h0, h1, g1, h2, g2, h3, h4⟩ := (z3o t).1 hs
 have hce := za2 t
 have hle0 := zb9 t
 refine z3q 2 (by simp only [pureD.pureL, z0h, Bool.and_self]) (z3w _) (z30 [7] func10 rfl (by decide +kernel) rfl ?_)
 show awp _ _ (Code.seq _ _) _ _
 repeat' (first | refine nxt ?_ | ((refine zqh fun K hK => ?_); (simp (disch := omega) only [go_sem, Nat.reduceBEq, ↓reduceIte, reduceCtorEq, Nat.reduceAdd, Nat.reduceMul, Nat.reduceLeDiff])) | (refine hK _ ?_; clear hK K))
 (refine z6x (fun U st => ∃ (i : _), U = t.kids.length - i /\ st.t 1 = .ptr 0 0 /\ st.t 3 = .osl 1 (1 + ((t.kids.take i).flatMap nodesT).length) /\ st.t 4 = .int .i64 i /\ st.H 0 = some (.box 27 (z04 t)) /\ st.H 1 = some (.row 23 (1 + ((t.kids.take i).flatMap nodesT).length) (([t.id] ++ (t.kids.take i).flatMap idsT).flatMap cellsId)) /\ (i <= t.kids.length) /\ (2 <= st.nx)) ?_ ?_); rotate_left; (rintro U st ⟨i, rfl, q1, q3, q4, qH0, qH1, qp0, qp1⟩); rotate_left
 ·(refine ⟨_, 0, rfl, ?_⟩); (simp (disch := omega) only [go_sem, Nat.reduceBEq, Nat.reduceLeDiff, true_and, and_true, and_self, Int.natCast_zero, List.flatMap_nil, List.append_nil])
  try simp [cellsId]
 have hin := fun (h : i < t.kids.length) => ih t.kids[i] (List.getElem_mem h) (h4 _ (List.getElem_mem h)) (by have := zn7 (List.getElem_mem h); omega)
 have hb := z7u t.kids (i + 1)
 by_cases hi : i < t.kids.length
 ·have hsu := z7v t.kids i hi
  have hil := zb9 t.kids[i]
  have htk : (t.kids.take (i + 1)).flatMap idsT = (t.kids.take i).flatMap idsT ++ idsT t.kids[i] := by
   rw [List.take_succ_eq_append_getElem hi, List.flatMap_append]; simp
  repeat' (first | refine nxt ?_ | ((first | refine zqh fun K hK => ?_ | refine zqr fun K hK => ?_ | refine zqs (hin hi) ?_); (simp (disch := omega) only [go_sem, Nat.reduceBEq, ↓reduceIte, reduceCtorEq, Nat.reduceAdd, q1, q3, q4, qH0, qH1, z0l, z0m, z9o])) | (refine zqd _ rfl ?_ ?_ <;> intro hc <;> (((try simp only [z06] at hc); (try omega)))) | (refine hK _ ?_; clear hK K))
  (refine Exists.intro _ (And.intro ?_ ⟨i + 1, rfl, ?_⟩)); rotate_left; (simp (disch := omega) only [go_sem, Nat.reduceBEq, q1, q3, q4, qH0, qH1, true_and, Int.natCast_add, Int.natCast_one, List.flatMap_append, List.flatMap_cons, List.cons_append, List.nil_append, hsu, htk, hil, Nat.add_assoc, List.append_assoc]); rotate_left
  ·omega
  ·omega
 ·repeat' (first | refine nxt ?_ | ((refine zqh fun K hK => ?_); (simp (disch := omega) only [go_sem, Nat.reduceBEq, ↓reduceIte, reduceCtorEq, Nat.reduceAdd, q1, q3, q4, qH0, z0l])) | (refine zqd _ rfl ?_ ?_ <;> intro hc <;> (((try simp only [z06] at hc); (try omega)))) | refine zqz ?_ | refine zqu (by simp only [go_sem]; rfl) rfl ?_ | (refine hK _ ?_; clear hK K))
  have hi2 : i = t.kids.length := by omega
  subst hi2
  rw [List.take_length] at qH1
  have hle : 1 + (t.kids.flatMap nodesT).length = (idsT t).length := by rw [hle0, hce]
  rw [hle, List.singleton_append, <- z2f] at qH1
  rw [List.take_length, hle]
  refine z8i (z1s 0 ?_ z6p z8y (fun _ => rfl) (fun _ => rfl))
  simp (disch := omega) only [go_sem, qH1]
end
section
open Abs Facts Tr
theorem z5r {P : Program} {kt : TypeId} {α : Type} [DecidableEq α] (enc : α -> D) (he : ∀ a b, eqK P kt (enc a) (enc b) = some (decide (a = b))) (v : α -> D) (k : α) :
  ∀ l : List α, z2a P kt (enc k) (l.map fun a => (enc a, v a)) = some (if k ∈ l then some (l.idxOf k, v k) else none)
 | [] => by simp [z2a]
 | a :: l => by
  simp only [List.map_cons, z2a, he]
  by_cases h : k = a
  ·subst h; simp
  ·rw [decide_eq_false h]
   simp only
   rw [z5r enc he v k l]
   by_cases h2 : k ∈ l
   ·simp only [h2, if_true, Option.map_some, List.mem_cons, or_true]
    rw [List.idxOf_cons, show (a == k) = false from by simpa using fun e => h e.symm]; rfl
   ·simp [h, h2]
theorem z39 {α : Type} [DecidableEq α] (enc : α -> D) (v : α -> D) (k : α) (x : D) : ∀ l : List α, l.Nodup -> k ∈ l -> z3h (l.map fun a => (enc a, v a)) (l.idxOf k) x = l.map fun a => (enc a, if a = k then x else v a)
 | [], _, h => by cases h
 | a :: l, hn, h => by
  simp only [List.map_cons, List.idxOf_cons]
  by_cases e : a = k
  ·subst e
   simp only [beq_self_eq_true, cond_true, z3h, if_true, List.cons.injEq, true_and]
   refine List.map_congr_left fun b hb => ?_
   have : b ≠ a := fun e => by subst e; exact (List.nodup_cons.1 hn).1 hb
   rw [if_neg this]
  ·rw [show (a == k) = false from by simpa using e]
   simp only [cond_false, z3h, if_neg e, List.cons.injEq, true_and]
   refine z39 enc v k x l (List.nodup_cons.1 hn).2 ?_
   rcases List.mem_cons.1 h with h | h
   ·exact (e h.symm).elim
   ·exact h
namespace Tr
def z19 {α : Type} [DecidableEq α] (l : List α) : List α := l.foldl (fun a x => if x ∈ a then a else a ++ [x]) []
theorem z7g {α : Type} [DecidableEq α] (l : List α) (x : α) : z19 (l ++ [x]) = if x ∈ z19 l then z19 l else z19 l ++ [x] := by unfold z19; rw [List.foldl_append]; rfl
theorem zs5 {α : Type} [DecidableEq α] {l : List α} {i : Nat} (h : i < l.length) : z19 (l.take (i + 1)) = if l[i] ∈ z19 (l.take i) then z19 (l.take i) else z19 (l.take i) ++ [l[i]] := by
 rw [List.take_succ_eq_append_getElem h, z7g]
theorem zpd {α : Type} {p : List α -> Prop} (h0 : p []) (h1 : ∀ l x, p l -> p (l ++ [x])) : ∀ l, p l := fun l => by
 rw [<- List.reverse_reverse l]
 induction l.reverse with
 | nil => exact h0
 | cons x l ih => rw [List.reverse_cons]; exact h1 _ _ ih
theorem z25 {α : Type} [DecidableEq α] (l : List α) : (z19 l).Nodup /\ (∀ x, x ∈ z19 l ↔ x ∈ l) /\ (z19 l).length <= l.length /\ ((z19 l).length = l.length ↔ l.Nodup) := by
 refine zpd (p := fun l => (z19 l).Nodup /\ (∀ x, x ∈ z19 l ↔ x ∈ l) /\ (z19 l).length <= l.length /\ ((z19 l).length = l.length ↔ l.Nodup)) ?_ ?_ l
 ·exact ⟨by simp [z19], by simp [z19], by simp [z19], by simp [z19]⟩
 ·intro l x ih
  obtain ⟨h1, h2, h3, h4⟩ := ih
  rw [z7g]
  by_cases h : x ∈ z19 l
  ·rw [if_pos h]
   refine ⟨h1, fun y => ?_, by simp; omega, ?_⟩
   ·rw [h2, List.mem_append, List.mem_singleton]
    refine ⟨.inl, fun hy => ?_⟩
    rcases hy with hy | rfl
    ·exact hy
    ·exact (h2 _).1 h
   ·constructor
    ·intro hl; simp at hl; omega
    ·intro hn
     rw [List.nodup_append] at hn
     exact (hn.2.2 x ((h2 x).1 h) x (by simp) rfl).elim
  ·rw [if_neg h]
   refine ⟨?_, fun y => by rw [List.mem_append, List.mem_append, h2], by simp; omega, ?_⟩
   ·rw [List.nodup_append]
    refine ⟨h1, by simp, fun a ha b hb => ?_⟩
    rw [List.mem_singleton] at hb
    subst hb
    intro e; subst e; exact h ha
   ·rw [List.length_append, List.length_append, List.nodup_append]
    constructor
    ·intro hl
     refine ⟨h4.1 (by simpa using hl), by simp, fun a ha b hb => ?_⟩
     rw [List.mem_singleton] at hb
     subst hb
     intro e; subst e; exact h ((h2 a).2 ha)
    ·intro hn
     rw [h4.2 hn.1]
end Tr
end
end Go.Proofs.YtfechgagcgbldaaDoor
