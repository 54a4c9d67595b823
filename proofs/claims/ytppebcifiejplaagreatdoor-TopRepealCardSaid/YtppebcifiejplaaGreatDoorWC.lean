import Derived.Test.YtppebcifiejplaaGreatDoorWB
import Derived.ProofKit
import Derived.ChangeSlices
import Derived.Below
import Derived.ChangeArms
import Derived.DataReads
import Derived.Test.YtppebcifiejplaaGreatDoorProg
import Derived.KernelRfl
import Derived.Test.YtppebcifiejplaaGreatDoorRows
import Derived.OpenShut
import Derived.LaidMore
import Derived.MakeChecks
import Derived.FnData
import Derived.LaidSub
import Derived.Lay
import Derived.Stop.Joined
import Derived.LaidOnce
import Derived.Laws.RangeAny
/-
 Lemmas of the claim. No condition but those that each names.
-/
set_option linter.unusedSimpArgs false
set_option linter.unusedVariables false
set_option maxRecDepth 100000
set_option maxHeartbeats 8000000
set_option linter.unusedSectionVars false
namespace Go.Proofs.YtppebcifiejplaaGreatDoor.Abs
open Go.RowKit

theorem zx1 {n : Int} (h : -9223372036854775808 <= n /\ n <= 9223372036854775807) : IntKind.i64.wrap n = n := by rw [IntKind.wrap_i64]; omega
theorem zx2 {α : Type} (f : α -> D) (l : List α) (k : Nat) (h : k < l.length) : zvz (l.map f) (k : Int) = some (f l[k]) := by
 unfold zvz
 rw [if_pos ⟨by omega, by simpa using h⟩]
 simp [h]
theorem z1l {α : Type} {f : α -> D} (h : ∀ x, pureD (f x) = true) : ∀ (l : List α), pureD.pureL (l.map f) = true
 | [] => rfl
 | x :: l => by simp only [List.map_cons, pureD.pureL, h x, z1l h l, Bool.and_self]
theorem z0w {P : Program} {H : HM} {d : D} (k : Nat) (h : pureD d = true) : z34 P H (k + 1) d = some d := by unfold z34; rw [if_pos h]
theorem zar {P : Program} {H : HM} (k : Nat) : ∀ (ds : List D), pureD.pureL ds = true -> zdd (z34 P H (k + 1)) ds = some ds
 | [], _ => rfl
 | d :: ds, h => by
  simp only [pureD.pureL, Bool.and_eq_true] at h
  simp only [zdd, z0w k h.1, zar k ds h.2]
theorem zbn : ∀ (cs : List D), z1m false 1 cs.length cs = cs
 | [] => rfl
 | c :: cs => by
  simp only [List.length_cons, z1m, Bool.false_eq_true, if_false, List.getElem?_cons_zero, Option.getD_some, List.drop_succ_cons, List.drop_zero]
  rw [zbn cs]
theorem ziu {P : Program} {H : HM} {id n e : Nat} {cs : List D} (k : Nat) (hH : H id = some (.row e n cs)) (ha : z04 P e = false) (hs : z02 P e = 1) (hn : cs.length = n) (hp : pureD.pureL cs = true) :
  z34 P H (k + 2) (.osl id n) = some (.rsl false 1 cs) := by
 unfold z34
 simp only [pureD, Bool.false_eq_true, if_false, hH, ha, hs, and_self, or_true, if_true]
 rw [zar k cs hp]
 simp only [Option.map_some]
 rw [<- hn, zbn]

def encI (l : List Int) : D := .rsl false 1 (l.map fun n => .int .i64 n)
def z3b (l : List ByteArray) : D := .rsl false 1 (l.map .str)
theorem z31 (l : List ByteArray) : pureD (z3b l) = true := by simp only [z3b, pureD]; exact z1l (fun _ => rfl) l
end Go.Proofs.YtppebcifiejplaaGreatDoor.Abs
namespace Go.Proofs.YtppebcifiejplaaGreatDoor.Abs
theorem z09 {P : Program} {H : HM} {nx k : Nat} {d r : D} (hp : pureD d = true) (h : Le d r) : Fin P (k + 1) r d H nx := ⟨d, z0w k hp, h⟩
theorem z00 {P : Program} {H : HM} {nx : Nat} {b c : Bool} (h : b = c) : Fin P 1 (.bool c) (.bool b) H nx := z09 rfl (by rw [h]; exact Le.refl _)
theorem z56 {P : Program} {H : HM} {nx : Nat} {b c : Int} (h : b = c) : Fin P 1 (.int .i64 c) (.int .i64 b) H nx := z09 rfl (by rw [h]; exact Le.refl _)
end Go.Proofs.YtppebcifiejplaaGreatDoor.Abs
namespace Go.Proofs.YtppebcifiejplaaGreatDoor.Abs
open Go.RowKit
theorem z0u {P : Program} {H : HM} {k : Nat} {d d' : D} {ds ds' : List D} (h : z34 P H k d = some d') (hs : zdd (z34 P H k) ds = some ds') : zdd (z34 P H k) (d :: ds) = some (d' :: ds') := by
 simp only [zdd, h, hs]
theorem z7e {P : Program} {H : HM} {k : Nat} : zdd (z34 P H k) [] = some [] := rfl
end Go.Proofs.YtppebcifiejplaaGreatDoor.Abs
namespace Go.Proofs.YtppebcifiejplaaGreatDoor.Abs
open Go.RowKit
theorem zx3 {P : Program} {H : HM} {f : FuncId} {cap cap' : List D} (k : Nat) (hp : pureD.pureL cap = false) (hc : zdd (z34 P H k) cap = some cap') : z34 P H (k + 1) (.fn f cap) = some (.fn f cap') := by
 unfold z34
 simp only [pureD, hp, Bool.false_eq_true, if_false, hc, Option.map_some]
theorem z6u {P : Program} {H : HM} {nx k : Nat} {d r : D} (h : z34 P H k d = some r) : Fin P k r d H nx := ⟨r, h, Le.refl _⟩
end Go.Proofs.YtppebcifiejplaaGreatDoor.Abs
namespace Go.Proofs.YtppebcifiejplaaGreatDoor.Abs
open Go.RowKit
theorem z6v {α : Type} {f : α -> List D} {sz : Nat} (h : ∀ x, (f x).length = sz) : ∀ (l : List α), z1m true sz l.length (l.flatMap f) = l.map fun x => .agg (f x)
 | [] => rfl
 | x :: l => by
  simp only [List.length_cons, z1m, if_true, List.flatMap_cons, List.map_cons]
  rw [List.take_left' (h x), List.drop_left' (h x), z6v h l]
theorem z2m {α : Type} {f : α -> List D} (h : ∀ x, pureD.pureL (f x) = true) : ∀ (l : List α), pureD.pureL (l.flatMap f) = true
 | [] => rfl
 | x :: l => by
  have app : ∀ (a b : List D), pureD.pureL a = true -> pureD.pureL b = true -> pureD.pureL (a ++ b) = true := by
   intro a b
   induction a with
   | nil => intro _ h; exact h
   | cons d ds ih =>
    intro h1 h2
    simp only [pureD.pureL, Bool.and_eq_true, List.cons_append] at h1 ⊢
    exact ⟨h1.1, ih h1.2 h2⟩
  exact app _ _ (h x) (z2m h l)
theorem z2w {α : Type} {P : Program} {H : HM} {id e sz : Nat} {f : α -> List D} {l : List α} (k : Nat) (hH : H id = some (.row e l.length (l.flatMap f))) (ha : z04 P e = true) (hs : z02 P e = sz) (h : ∀ x, (f x).length = sz) (hp : ∀ x, pureD.pureL (f x) = true) :
  z34 P H (k + 2) (.osl id l.length) = some (.rsl false sz (l.map fun x => .agg (f x))) := by
 unfold z34
 simp only [pureD, Bool.false_eq_true, if_false, hH, ha, true_or, and_self, if_true, hs]
 rw [zar k _ (z2m hp l)]
 simp only [Option.map_some, z6v h]
end Go.Proofs.YtppebcifiejplaaGreatDoor.Abs
namespace Go.Proofs.YtppebcifiejplaaGreatDoor.Abs
theorem z57 {H : HM} {i j : Nat} {o : Option HObj} (h : ¬ j = i) : z1f H i o j = H j := if_neg h
theorem zsn {H : HM} {i : Nat} {o : Option HObj} : z1f H i o i = o := if_pos rfl
end Go.Proofs.YtppebcifiejplaaGreatDoor.Abs
namespace Go.Proofs.YtppebcifiejplaaGreatDoor.Abs
open Go.RowKit
theorem PC.le {P : Program} {f : FuncId} {ds es : List D} {r : D} (h : PC P f es r) (hp : pureD.pureL ds = true) (hl : LeL ds es) : PC P f ds r :=
 ⟨hp, h.2.1, h.2.2.1, fun s w vs h1 h2 h3 h4 => h.2.2.2 s w vs h1 h2 h3 (zb5 hl h4)⟩
end Go.Proofs.YtppebcifiejplaaGreatDoor.Abs
namespace Go.Proofs.YtppebcifiejplaaGreatDoor.Abs
open Go.RowKit Go.ChangeShapes

def z6j (W : World) : RS := { m := W.cell?, H := noH, nx := 0, κ := fun _ => .pointer none }
def zso (W : World) : Prop := ∀ g, rel (z6j W) (globD g) (.pointer (some ⟨g, 0, none⟩))

theorem zx4 (P : Program) (W : World) (hg : zso W) : RH P (z6j W) W :=
 ⟨fun a v h => ⟨h, by rintro ⟨id, hid, _⟩; exact absurd hid (Nat.not_lt_zero _)⟩, fun id o ho => (by cases ho), fun i j hi => (hi rfl).elim, hg⟩
theorem zsp {P : Program} {f : FuncId} {ds : List D} {v : Value} {d : D} (h : PC P f ds d) (V : ∀ s u, rel s d u -> u = v) {W : World} (hg : zso W) {vs : List Value} (hr : relAll (z6j W) ds vs) :
  Calls P f vs.toArray W fun e W' => e = .returned v /\ Below W.heap.size W W' := by
 refine (h.2.2.2 (z6j W) W vs rfl rfl (zx4 P W hg) hr).mono fun e W' ⟨u, r', s', he, hrr, hstep, _, hrel⟩ => ?_
 subst hrr
 rw [V _ _ hrel] at he
 exact ⟨he, hstep.os, hstep.tape, hstep.output, hstep.size, fun k O => hstep.keep k O (by rintro ⟨id, hid, _⟩; exact absurd hid (Nat.not_lt_zero _))⟩
end Go.Proofs.YtppebcifiejplaaGreatDoor.Abs
namespace Go.Proofs.YtppebcifiejplaaGreatDoor.Abs
open Go.RowKit Go.ChangeShapes
end Go.Proofs.YtppebcifiejplaaGreatDoor.Abs
namespace Go.Proofs.YtppebcifiejplaaGreatDoor.Abs
open Go.RowKit
variable {P : Program} {own : List Nat} {Q : Exit -> St -> Prop} {st : St}

theorem zqd {c : Operand} {x y b : Code} (t : Bool) (ht : st.ev c = .bool t) (h1 : t = true -> awp P own (.seq x b) Q st) (h2 : t = false -> awp P own (.seq y b) Q st) : awp P own (.seq (.cond c x y) b) Q st :=
 ⟨t, ht, h1, h2⟩
theorem zqb {b : Code} (h : awp P own b Q st) : awp P own (.seq .skip b) Q st := ⟨st, SealTo.refl st, h⟩
theorem zqg {b : Code} (h : Q .ret st) : awp P own (.seq .ret b) Q st := h
theorem zqc {b : Code} {id : Nat} (h : Q (.exit id) st) : awp P own (.seq (.exit id) b) Q st := h
theorem zqa {id : Nat} {c b : Code} (h : awp P own c (zpw id (znr (fun st => ∃ st', SealTo P st st' /\ awp P own b Q st') Q)) st) : awp P own (.seq (.block id c) b) Q st := h
theorem zqr {id : Nat} {l : List Oper} (h : ∀ K : St -> Prop, (∀ st, Q .normal st -> K st) -> z2b P own (l.map (·.dst)) l K st) : awp P own (.region id l.toArray false) Q st :=
 zv9 (h _ fun _ h => h)
theorem zqq {id : Nat} {l : List Oper} (h0 : zgl own l.toArray = true) (h : ∀ K : St -> Prop, (∀ st, Q .normal st -> K st) -> z2s P own (l.map (·.dst)) l K st) : awp P own (.region id l.toArray true) Q st :=
 znt h0 (h _ fun _ h => h)
theorem z3h {c : Code} (I : Nat -> St -> Prop) (h0 : ∃ n, I n st) (h : ∀ n st', I n st' -> awp P own c (zy7 I n Q) st') : awp P own (.loop c) Q st := ⟨I, h0, h⟩
def isRN : Exit -> Bool
 | .normal | .ret => true
 | _ => false
theorem zqu {e : Exit} {rs : List ResultVar} {K : D -> HM -> Nat -> Prop} {d : D} (h : resD P st rs = some d) (he : isRN e = true) (hF : K d st.H st.nx) : retQ P rs K e st := by
 cases e <;> first | exact ⟨d, h, hF⟩ | cases he
theorem zqv {Q' : Exit -> St -> Prop} {b : Code} (h : awp P own b Q st) : znr (fun st => ∃ st', SealTo P st st' /\ awp P own b Q st') Q' .normal st := ⟨st, SealTo.refl st, h⟩
theorem ziv {Q' : Exit -> St -> Prop} {b : Code} (st' : St) (hs : SealTo P st st') (h : awp P own b Q st') : znr (fun st => ∃ st', SealTo P st st' /\ awp P own b Q st') Q' .normal st := ⟨st', hs, h⟩
theorem zqw {k : St -> Prop} {id : Nat} (h : Q (.exit id) st) : znr k Q (.exit id) st := h
theorem zqx {k : St -> Prop} (h : Q .ret st) : znr k Q .ret st := h
theorem zqy {id : Nat} (h : Q .normal st) : zpw id Q .normal st := h
theorem zqz {id : Nat} (h : Q .normal st) : zpw id Q (.exit id) st := by
 simp only [zpw, if_true]; exact h
theorem z58 {id id' : Nat} (hne : (id' == id) = false) (h : Q (.exit id') st) : zpw id Q (.exit id') st := by
 have : ¬ id' = id := by simpa using hne
 simp only [zpw]; rw [if_neg this]; exact h
theorem z23 {id : Nat} (h : Q .ret st) : zpw id Q .ret st := h
theorem zqp {I : Nat -> St -> Prop} {n id : Nat} (h : Q (.exit id) st) : zy7 I n Q (.exit id) st := h
theorem zqo {I : Nat -> St -> Prop} {n : Nat} (h : Q .ret st) : zy7 I n Q .ret st := h
section
variable {f : List Oper -> (St -> Prop) -> St -> Prop} {rest : List Oper} {K : St -> Prop} {dst : Option Nat}
theorem zqf {b : Bool} {op : Op} {ty : TypeId} {pos : String} {aft : Array Edge} {g : Option (Nat × Bool)} (h1 : b = true -> f (⟨dst, op, ty, pos, aft, g⟩ :: rest) K st) (h2 : b = false -> f rest K (st.put dst (.tup []))) :
  zvc (some b) f ⟨dst, op, ty, pos, aft, g⟩ rest K st := by
 cases b with
 | true => exact h1 rfl
 | false => exact h2 rfl
end
attribute [go_sem] encI z3b
theorem zsq {α : Type} {f : α -> D} {l : List α} {i : Int} (h0 : 0 <= i) (h : i.toNat < l.length) : zvz (l.map f) i = some (f l[i.toNat]) := by
 unfold zvz
 rw [if_pos ⟨h0, by simp; omega⟩]
 simp [h]
theorem zx5 {α : Type} {c : Prop} [Decidable c] {x : α} (h : c) : (if c then some x else none) = some x := if_pos h
theorem zsr {α β : Type} (f : α -> β) (l : List α) (i : Nat) : (l.map f).take i = (l.take i).map f := (List.map_take).symm
theorem zss {α β : Type} (f : α -> β) (l : List α) (i : Nat) : (l.map f).drop i = (l.drop i).map f := (List.map_drop).symm
theorem zot : maxLen = 9223372036854775807 := rfl
attribute [go_sem] zsr zss zot
theorem nbeq {a b : Nat} (h : ¬ a = b) : (a == b) = false := by simpa using h
theorem nb1 {a : Nat} {st : St} (h : ¬ a = st.nx) : (a == st.nx) = false := nbeq h
theorem nb2 {a : Nat} {st : St} (h : ¬ st.nx = a) : (st.nx == a) = false := nbeq h
theorem nb3 {a k : Nat} {st : St} (h : ¬ a = st.nx + k) : (a == st.nx + k) = false := nbeq h
theorem nb4 {a k : Nat} {st : St} (h : ¬ st.nx + k = a) : (st.nx + k == a) = false := nbeq h
theorem zst {α : Type} {f : α -> D} {l : List α} {k : Nat} (h : k < l.length) : zvz (l.map f) (k : Int) = some (f l[k]) := zx2 f l k h
theorem AC.split {f : FuncId} {pre post : List D} {sz : Nat} {els : List D} {H : HM} {nx : Nat} {K : D -> HM -> Nat -> Prop} (h0 : els = [] -> AC P f (pre ++ .nil :: post) H nx K) (h1 : AC P f (pre ++ .rsl true sz els :: post) H nx K) :
  AC P f (pre ++ .rsl false sz els :: post) H nx K := by
 refine ⟨h1.1, fun s w vs hH hnx hRH hr => ?_⟩
 have key : ∀ (pre : List D) (vs : List Value), relAll s (pre ++ .rsl false sz els :: post) vs -> (els = [] /\ relAll s (pre ++ .nil :: post) vs) \/ relAll s (pre ++ .rsl true sz els :: post) vs := by
  intro pre
  induction pre with
  | nil =>
   intro vs hr
   simp only [List.nil_append, relAll] at hr ⊢
   obtain ⟨v, r, h1, h2, h3⟩ := hr
   simp only [rel] at h2
   rcases h2 with ⟨_, h4, h5⟩ | h2
   ·exact .inl ⟨h4, v, r, h1, by simpa only [rel] using h5, h3⟩
   ·exact .inr ⟨v, r, h1, by simp only [rel]; exact .inr h2, h3⟩
  | cons d ds ih =>
   intro vs hr
   simp only [List.cons_append, relAll] at hr ⊢
   obtain ⟨v, r, h1, h2, h3⟩ := hr
   rcases ih r h3 with ⟨h4, h5⟩ | h4
   ·exact .inl ⟨h4, v, r, h1, h2, h5⟩
   ·exact .inr ⟨v, r, h1, h2, h4⟩
 rcases key pre vs hr with ⟨h2, h3⟩ | h2
 ·exact (h0 h2).2 s w vs hH hnx hRH h3
 ·exact h1.2 s w vs hH hnx hRH h2
theorem ziw {P : Program} {H : HM} {ds ds' : List D} (k : Nat) (hp : pureD.pureL ds = false) (hc : zdd (z34 P H k) ds = some ds') : z34 P H (k + 1) (.tup ds) = some (.tup ds') := by
 unfold z34
 simp only [pureD, hp, Bool.false_eq_true, if_false, hc, Option.map_some]
theorem ze6 {P : Program} {H : HM} {ds ds' : List D} (k : Nat) (hp : pureD.pureL ds = false) (hc : zdd (z34 P H k) ds = some ds') : z34 P H (k + 1) (.agg ds) = some (.agg ds') := by
 unfold z34
 simp only [pureD, hp, Bool.false_eq_true, if_false, hc, Option.map_some]
theorem ze7 {cs : List D} {n : Nat} (h : n = cs.length) : z1m false 1 n cs = cs := by subst h; exact zbn cs
theorem z6c {α : Type} {f : α -> D} (h : ∀ x, z4k (f x) = some [f x]) : ∀ (l : List α), z1h 1 (l.map f) = some (l.map f)
 | [] => rfl
 | x :: l => by simp [z1h, h, z6c h l]
theorem zsu (l : List ByteArray) : z1h 1 (l.map D.str) = some (l.map D.str) := z6c (fun _ => rfl) l
theorem zsv {k : IntKind} (l : List Int) : z1h 1 (l.map (D.int k)) = some (l.map (D.int k)) := z6c (fun _ => rfl) l
theorem zh6 (l : List ByteArray) : pureD.pureL (l.map D.str) = true := z1l (fun _ => rfl) l
theorem zx6 {k : IntKind} (l : List Int) : pureD.pureL (l.map (D.int k)) = true := z1l (fun _ => rfl) l
theorem zou {α : Type} (f : α -> D) (l : List α) : z1m false 1 l.length (l.map f) = l.map f := ze7 (by simp)
attribute [go_sem] List.nil_append List.cons_append Bool.false_or Bool.or_true Bool.true_or Bool.or_false zou
theorem zix (a b : List D) : pureD.pureL (a ++ b) = (pureD.pureL a && pureD.pureL b) := by
 induction a with
 | nil => rfl
 | cons d ds ih => simp only [List.cons_append, pureD.pureL, ih, Bool.and_assoc]
attribute [go_sem] zix
theorem zlj {α : Type} (f : α -> D) (l : List α) (x : D) : z1m false 1 (l.length + 1) (l.map f ++ [x]) = l.map f ++ [x] := ze7 (by simp)
attribute [go_sem high] zlj
theorem zsw {k : IntKind} (l : List Nat) : z1h 1 (l.map fun n => D.int k (n : Nat)) = some (l.map fun n => D.int k (n : Nat)) := z6c (fun _ => rfl) l
theorem zx7 {k : IntKind} (l : List Nat) : pureD.pureL (l.map fun n => D.int k (n : Nat)) = true := z1l (fun _ => rfl) l
attribute [go_sem] zsu zsv zh6 zx6 zsw zx7

theorem ziy : ∀ (n : Nat) (cs : List D), pureD.pureL cs = true -> pureD.pureL (cs.take n) = true
 | 0, _, _ => rfl
 | n + 1, [], _ => rfl
 | n + 1, c :: cs, h => by
  simp only [pureD.pureL, Bool.and_eq_true, List.take_succ_cons] at h ⊢
  exact ⟨h.1, ziy n cs h.2⟩
theorem ziz : ∀ (n : Nat) (cs : List D), pureD.pureL cs = true -> pureD.pureL (cs.drop n) = true
 | 0, _, h => h
 | n + 1, [], _ => rfl
 | n + 1, c :: cs, h => by
  simp only [pureD.pureL, Bool.and_eq_true] at h
  exact ziz n cs h.2
theorem zg5 {ag : Bool} {sz : Nat} : ∀ {n : Nat} {cs : List D}, pureD.pureL cs = true -> pureD.pureL (z1m ag sz n cs) = true
 | 0, _, _ => rfl
 | n + 1, cs, h => by
  simp only [z1m, pureD.pureL, Bool.and_eq_true]
  refine ⟨?_, zg5 (ziz sz cs h)⟩
  cases ag with
  | true => simp only [if_true, pureD]; exact ziy sz cs h
  | false =>
   cases cs with
   | nil => rfl
   | cons c cs =>
    simp only [pureD.pureL, Bool.and_eq_true] at h
    exact h.1
def zj0 (P : Program) (id : Nat) (e : TypeId) (k : Nat) (cs : List D) : D -> D
 | .osl j n => cond (j == id && n == k) (.rsl false (z02 P e) (z1m (z04 P e) (z02 P e) k cs)) (.osl j n)
 | d => d
def zsx (P : Program) (id : Nat) (e : TypeId) (k : Nat) (cs : List D) : D -> D
 | .agg ds => .agg (ds.map (zj0 P id e k cs))
 | d => zj0 P id e k cs d
def zfm (P : Program) (id : Nat) (e : TypeId) (k : Nat) (cs : List D) : HObj -> HObj
 | .box t ds => .box t (ds.map (zj0 P id e k cs))
 | .row t n ds => .row t n (ds.map (zj0 P id e k cs))
 | o => o
def St.given (P : Program) (st : St) (id : Nat) (e : TypeId) (k : Nat) (cs : List D) : St :=
 {t := fun i => zsx P id e k cs (st.t i), H := fun j => cond (j == id) none ((st.H j).map (zfm P id e k cs)), nx := st.nx }
theorem zlk {st : St} {id : Nat} {e : TypeId} {k : Nat} {cs : List D} (h : st.H id = some (.row e k cs)) (ho : zky P e = true) (hp : pureD.pureL cs = true) : SealTo P st (st.given P id e k cs) := by
 intro N s a w hf
 have hid : s.H id = some (.row e k cs) := by rw [hf.H]; exact h
 obtain ⟨g1, g2⟩ := z7a hf.heap (id := id) (by rw [hid]; simp)
 let s' : RS := { s.shut1 w id with H := fun j => cond (j == id) none ((s.H j).map (zfm P id e k cs)) }
 have hm : s'.m = (s.shut1 w id).m := rfl
 have hH' : ∀ j, j ≠ id -> s'.H j = (s.H j).map (zfm P id e k cs) := fun j hj => by
  have : (j == id) = false := by simpa using hj
  show cond (j == id) none _ = _
  rw [this]; rfl
 have hHid : s'.H id = none := by
  show cond (id == id) none _ = _
  simp
 have hlater : Later s s' := by
  refine ⟨Nat.le_refl _, g1.mem, fun j _ => ?_⟩
  by_cases hj : j = id
  ·subst hj
   rw [hHid, hid]; exact .inl rfl
  ·rw [hH' j hj]
   show objLe (s.H j) ((s.H j).map _) (s.κ j) (s.κ j)
   cases s.H j with
   | none => rfl
   | some o =>
    cases o with
    | box t ds => exact .inr ⟨_, rfl, rfl⟩
    | row t n ds => exact .inr ⟨n, _, rfl, Nat.le_refl _, fun _ => rfl⟩
    | map es => exact .inr ⟨_, rfl, rfl, rfl⟩
    | raw q => exact .inr ⟨_, rfl, rfl, rfl⟩
 have r0 : ∀ d v, rel s d v -> rel s' (zj0 P id e k cs d) v := by
  intro d v hr
  have stay : rel s' d v := rel.later hlater d v hr
  cases d <;> first | exact stay | skip
  rename_i j n
  simp only [zj0]
  cases hc : (j == id && n == k) with
  | false => exact stay
  | true =>
   simp only [Bool.and_eq_true, beq_iff_eq] at hc
   obtain ⟨rfl, rfl⟩ := hc
   have hs : zc6 P (.osl j n, s.H, s.nx) = some (.rsl false (z02 P e) (z1m (z04 P e) (z02 P e) n cs), z1f s.H j none, s.nx) := by
    unfold zc6
    simp only [hid]
    rw [if_pos ⟨trivial, ho, hp⟩]
   obtain ⟨s2, _, _, _, _, hr2, he2⟩ := z9u hf.heap rfl rfl hr hs
   have he3 := he2 j n rfl
   subst he3
   have hpp : pureD (.rsl false (z02 P e) (z1m (z04 P e) (z02 P e) n cs)) = true := by
    simp only [pureD]
    exact zg5 hp
   exact z1r (s := s.shut1 w j) (s' := s') (fun a v h => h) _ _ hpp hr2
 have r0L : ∀ (ds : List D) (vs : List Value), relAll s ds vs -> relAll s' (ds.map (zj0 P id e k cs)) vs := by
  intro ds
  induction ds with
  | nil => intro vs hr; simpa [relAll] using hr
  | cons d ds ih =>
   intro vs hr
   simp only [relAll] at hr
   obtain ⟨v, r, rfl, h1, h2⟩ := hr
   exact z0m (r0 d v h1) (ih r h2)
 have r1 : ∀ d v, rel s d v -> rel s' (zsx P id e k cs d) v := by
  intro d v hr
  cases d <;> first | exact r0 _ v hr | skip
  rename_i ds
  simp only [zsx, rel] at hr ⊢
  obtain ⟨vs, h1, h2, h3⟩ := hr
  exact ⟨vs, h1, r0L ds vs h2, h3⟩
 have hnone : ∀ j, s'.H j ≠ none -> j ≠ id /\ s.H j ≠ none := by
  intro j hj
  by_cases hji : j = id
  ·subst hji; exact (hj hHid).elim
  ·rw [hH' j hji] at hj
   exact ⟨hji, fun h0 => hj (by rw [h0]; rfl)⟩
 have hown : ∀ b, owned s' b -> owned (s.shut1 w id) b := by
  rintro b ⟨j, hj, hH, hb⟩
  obtain ⟨h1, h2⟩ := hnone j hH
  exact ⟨j, hj, by simp only [RS.shut1, z1f, if_neg h1]; exact h2, hb⟩
 have hown2 : ∀ b, owned s' b -> owned s b := by
  rintro b ⟨j, hj, hH, hb⟩
  exact ⟨j, hj, (hnone j hH).2, hb⟩
 refine ⟨s', ⟨?_, hf.nx, hf.size, hf.defers, fun i => r1 _ _ (hf.tmps i), ?_⟩, ?_⟩
 ·show (fun j => cond (j == id) none ((s.H j).map (zfm P id e k cs))) = _
  rw [hf.H]; rfl
 ·refine ⟨fun a v hmm => ⟨(g2.mem a v hmm).1, fun ho => (g2.mem a v hmm).2 (hown _ ho)⟩, fun j o hj => ?_, fun i j hi hj hij hbi => ?_, fun g => rel.later hlater _ _ (hf.heap.glob g)⟩
  ·obtain ⟨h1, h2⟩ := hnone j (by rw [hj]; simp)
   rw [hH' j h1] at hj
   cases hs : s.H j with
   | none => exact (h2 hs).elim
   | some o0 =>
    rw [hs] at hj
    simp only [Option.map_some, Option.some.injEq] at hj
    obtain ⟨q1, q2⟩ := hf.heap.obj j o0 hs
    refine ⟨q1, ?_⟩
    show objOK P s' w (s.κ j) o
    cases o0 with
    | box t ds =>
     simp only [zfm] at hj; subst hj
     obtain ⟨b, vs, u1, u2, u3, u4⟩ := q2
     exact ⟨b, vs, u1, u2, r0L _ _ u3, u4⟩
    | row t n ds =>
     simp only [zfm] at hj; subst hj
     obtain ⟨vs, u1, u2, u3⟩ := q2
     exact ⟨vs, u1, r0L _ _ u2, u3⟩
    | map es =>
     simp only [zfm] at hj; subst hj
     obtain ⟨r, ens, clock, u1, u2, u3, u4⟩ := q2
     exact ⟨r, ens, clock, u1, u2, relAll.later hlater _ _ u3, relAll.later hlater _ _ u4.1, u4.2⟩
    | raw q =>
     simp only [zfm] at hj; subst hj
     exact q2
  ·exact hf.heap.apart i j (hnone i hi).2 (hnone j hj).2 hij hbi
 ·exact ⟨g1.os, g1.tape, g1.output, g1.size, g1.nx, g1.mem, g1.new, hlater.objs, g1.keep, fun b ho => .inl (hown2 b ho)⟩
@[go_sem] theorem t_seal (st : St) (id e k : Nat) (cs : List D) (i : Nat) : (st.given P id e k cs).t i = zsx P id e k cs (st.t i) := rfl
@[go_sem] theorem H_seal (st : St) (id e k : Nat) (cs : List D) (j : Nat) : (st.given P id e k cs).H j = cond (j == id) none ((st.H j).map (zfm P id e k cs)) := rfl
@[go_sem] theorem nx_seal (st : St) (id e k : Nat) (cs : List D) : (st.given P id e k cs).nx = st.nx := rfl
attribute [go_sem] zj0 zsx zfm
attribute [go_sem] Bool.not_true Bool.not_false decide_true decide_false List.getElem?_toArray List.map_map ne_eq not_true_eq_false not_false_eq_true List.length_map Nat.zero_le Option.some.injEq List.length_cons List.length_nil beq_self_eq_true Bool.true_and Bool.and_true true_or or_true List.drop_zero List.set_cons_zero List.set_cons_succ List.take_succ_cons List.take_zero List.drop_succ_cons D.int.injEq Prod.mk.injEq Int.toNat_natCast Nat.mul_one Nat.zero_add Nat.add_zero Int.natCast_nonneg List.getElem?_map List.length_set List.length_append List.length_replicate List.length_take List.length_drop List.take_length Bool.false_and Bool.and_false
attribute [go_sem] zst zsq zx1 nb1 nb2 nb3 nb4 zx5 resD allR valR
end Go.Proofs.YtppebcifiejplaaGreatDoor.Abs
namespace Go.Proofs.YtppebcifiejplaaGreatDoor.Abs
open Go.RowKit
variable {P : Program}

def zh7 : HObj -> Bool
 | .box _ cs => pureD.pureL cs
 | .row _ _ cs => pureD.pureL cs
 | .map es => pureD.pureL (es.map (·.1)) && pureD.pureL (es.map (·.2))
 | .raw _ => true
def renD (g : Nat -> Nat) : D -> D
 | .osl j n => .osl (g j) n
 | .ptr j off => .ptr (g j) off
 | .mp j => .mp (g j)
 | .agg ds => .agg (renL ds)
 | .tup ds => .tup (renL ds)
 | d => d
where renL : List D -> List D
 | [] => []
 | d :: ds => renD g d :: renL ds
def okD (k : Nat) : D -> Bool
 | .osl j _ => decide (j < k)
 | .ptr j _ => decide (j < k)
 | .mp j => decide (j < k)
 | .agg ds => okL ds
 | .tup ds => okL ds
 | d => pureD d
where okL : List D -> Bool
 | [] => true
 | d :: ds => okD k d && okL ds
def zsy (H : HM) (nx : Nat) : List HObj -> HM
 | [] => H
 | o :: os => zsy (z1f H nx (some o)) (nx + 1) os
theorem zh8 : ∀ (os : List HObj) (H : HM) (nx i : Nat), zsy H nx os i = if nx <= i /\ i < nx + os.length then os[i - nx]? else H i
 | [], H, nx, i => by
  simp only [zsy, List.length_nil, Nat.add_zero]
  rw [if_neg (by omega)]
 | o :: os, H, nx, i => by
  simp only [zsy, zh8 os, List.length_cons, z1f]
  by_cases h : nx + 1 <= i /\ i < nx + 1 + os.length
  ·rw [if_pos h, if_pos (by omega)]
   have : i - nx = (i - (nx + 1)) + 1 := by omega
   rw [this, List.getElem?_cons_succ]
  ·rw [if_neg h]
   by_cases h2 : i = nx
   ·subst h2
    rw [if_pos rfl, if_pos (by omega), Nat.sub_self]; rfl
   ·rw [if_neg h2, if_neg (by omega)]

def OC (P : Program) (f : FuncId) (ds : List D) (objs : List HObj) (r : D) : Prop :=
 pureD.pureL ds = true /\ okD objs.length r = true /\ (∀ o ∈ objs, zh7 o = true) /\
  ∀ H nx, AC P f ds H nx fun r' H' nx' => r' = renD (fun j => nx + j) r /\ H' = zsy H nx objs /\ nx' = nx + objs.length

noncomputable def z5v (s s3 : RS) (w w' : World) (k : Nat) (σ : Nat -> Nat) : RS :=
 {m := fun a => if a.block < w.heap.size then s.m a else @ite _ (∃ j, j < k /\ blockOf (s3.κ (σ j)) = some a.block) (Classical.propDecidable _) none (w'.cell? a)
  κ := fun i => if s.nx <= i /\ i < s.nx + k then s3.κ (σ (i - s.nx)) else s.κ i
  H := fun i => if s.nx <= i /\ i < s.nx + k then s3.H (σ (i - s.nx)) else s.H i
  nx := s.nx + k }

mutual
theorem zsz {s s' : RS} {k : Nat} {σ τ : Nat -> Nat} (hm : ∀ a v, s.m a = some v -> s'.m a = some v)
  (hnx : ∀ j, j < k -> τ j < s'.nx) (hH : ∀ j, j < k -> s'.H (τ j) = s.H (σ j) /\ s'.κ (τ j) = s.κ (σ j)) : ∀ (d : D) (v : Value), okD k d = true -> rel s (renD σ d) v -> rel s' (renD τ d) v
 | .osl j n, v, O, hr => by
  simp only [okD, decide_eq_true_eq] at O
  simp only [renD, rel] at hr ⊢
  obtain ⟨_, h2, h3⟩ := hr
  obtain ⟨e1, e2⟩ := hH j O
  exact ⟨hnx j O, h2, by rw [e1, e2]; exact h3⟩
 | .ptr j off, v, O, hr => by
  simp only [okD, decide_eq_true_eq] at O
  simp only [renD, rel] at hr ⊢
  obtain ⟨_, h2, h3⟩ := hr
  obtain ⟨e1, e2⟩ := hH j O
  exact ⟨hnx j O, h2, by rw [e1, e2]; exact h3⟩
 | .mp j, v, O, hr => by
  simp only [okD, decide_eq_true_eq] at O
  simp only [renD, rel] at hr ⊢
  obtain ⟨_, h2, h3⟩ := hr
  obtain ⟨e1, e2⟩ := hH j O
  exact ⟨hnx j O, h2, by rw [e1, e2]; exact h3⟩
 | .agg ds, v, O, hr => by
  simp only [okD] at O
  simp only [renD, rel] at hr ⊢
  obtain ⟨vs, h1, h2, h3⟩ := hr
  exact ⟨vs, h1, zbo hm hnx hH ds vs O h2, h3⟩
 | .tup ds, v, O, hr => by
  simp only [okD] at O
  simp only [renD, rel] at hr ⊢
  obtain ⟨vs, h1, h2⟩ := hr
  exact ⟨vs, h1, zbo hm hnx hH ds vs O h2⟩
 | .any, v, O, hr => by simp only [renD] at hr ⊢; exact z1r hm _ _ rfl hr
 | .int _ _, v, O, hr => by simp only [renD] at hr ⊢; exact z1r hm _ _ rfl hr
 | .bool _, v, O, hr => by simp only [renD] at hr ⊢; exact z1r hm _ _ rfl hr
 | .str _, v, O, hr => by simp only [renD] at hr ⊢; exact z1r hm _ _ rfl hr
 | .nil, v, O, hr => by simp only [renD] at hr ⊢; exact z1r hm _ _ rfl hr
 | .nptr, v, O, hr => by simp only [renD] at hr ⊢; exact z1r hm _ _ rfl hr
 | .nfun, v, O, hr => by simp only [renD] at hr ⊢; exact z1r hm _ _ rfl hr
 | .nmp, v, O, hr => by simp only [renD] at hr ⊢; exact z1r hm _ _ rfl hr
 | .e0, v, O, hr => by simp only [renD] at hr ⊢; exact z1r hm _ _ rfl hr
 | .rsl nn sz els, v, O, hr => by simp only [okD] at O; simp only [renD] at hr ⊢; exact z1r hm _ _ O hr
 | .rptr d, v, O, hr => by simp only [okD] at O; simp only [renD] at hr ⊢; exact z1r hm _ _ O hr
 | .fsl _ els, v, O, hr => by simp only [okD] at O; simp only [renD] at hr ⊢; exact z1r hm _ _ O hr
 | .fn f cap, v, O, hr => by simp only [okD] at O; simp only [renD] at hr ⊢; exact z1r hm _ _ O hr
 | .bfn f first, v, O, hr => by simp only [okD] at O; simp only [renD] at hr ⊢; exact z1r hm _ _ O hr
 | .eptr .., v, O, hr => by simp only [okD, pureD] at O; cases O
 | .it _, v, O, hr => by simp only [okD, pureD] at O; cases O
theorem zbo {s s' : RS} {k : Nat} {σ τ : Nat -> Nat} (hm : ∀ a v, s.m a = some v -> s'.m a = some v)
  (hnx : ∀ j, j < k -> τ j < s'.nx) (hH : ∀ j, j < k -> s'.H (τ j) = s.H (σ j) /\ s'.κ (τ j) = s.κ (σ j)) : ∀ (ds : List D) (vs : List Value), okD.okL k ds = true -> relAll s (renD.renL σ ds) vs -> relAll s' (renD.renL τ ds) vs
 | [], vs, _, hr => by simpa [renD.renL, relAll] using hr
 | d :: ds, vs, O, hr => by
  simp only [okD.okL, Bool.and_eq_true] at O
  simp only [renD.renL, relAll] at hr ⊢
  obtain ⟨v, r, h1, h2, h3⟩ := hr
  exact ⟨v, r, h1, zsz hm hnx hH d v O.1 h2, zbo hm hnx hH ds r O.2 h3⟩
end

theorem objOK.pure {s s' : RS} {w : World} {v : Value} {o : HObj} (hm : ∀ a v, s.m a = some v -> s'.m a = some v) (hp : zh7 o = true) (h : objOK P s w v o) : objOK P s' w v o := by
 cases o with
 | box e cs =>
  obtain ⟨b, vs, h1, h2, h3, h4⟩ := h
  exact ⟨b, vs, h1, h2, z1i hm _ _ hp h3, h4⟩
 | row e n cs =>
  obtain ⟨vs, h1, h2, h3⟩ := h
  exact ⟨vs, h1, z1i hm _ _ hp h2, h3⟩
 | map es =>
  simp only [zh7, Bool.and_eq_true] at hp
  obtain ⟨r, ens, clock, h1, h2, h3, h4⟩ := h
  exact ⟨r, ens, clock, h1, h2, z1i hm _ _ hp.1 h3, z1i hm _ _ hp.2 h4.1, h4.2⟩
 | raw q => exact h

theorem zh9 {f : FuncId} {ds : List D} {objs : List HObj} {r : D} (hds : pureD.pureL ds = true) (hr : okD objs.length r = true) (ho : ∀ o ∈ objs, zh7 o = true)
  (h : AC P f ds noH 0 fun d H' _ => ∃ σ : Nat -> Nat, (∀ i j, i < objs.length -> j < objs.length -> σ i = σ j -> i = j) /\ d = renD σ r /\ ∀ j, j < objs.length -> H' (σ j) = objs[j]?) : OC P f ds objs r := by
 refine ⟨hds, hr, ho, fun H nx => ⟨h.1, fun s w vs hH hnx hRH hrel => ?_⟩⟩
 subst hH; subst hnx
 let s2 : RS := { s with H := noH, nx := 0 }
 have hno : ∀ k, ¬ owned s2 k := by rintro k ⟨id, hid, _⟩; exact absurd hid (Nat.not_lt_zero _)
 have hRH2 : RH P s2 w := ⟨fun a v hmm => ⟨(hRH.mem a v hmm).1, hno _⟩, fun id o ho => (by cases ho), fun i j hi => (hi rfl).elim, fun g => z1r (s := s) (s' := s2) (fun a v hm => hm) _ _ (z77 g) (hRH.glob g)⟩
 have hr2 : relAll s2 ds vs := z1i (s := s) (s' := s2) (fun a v hm => hm) ds vs hds hrel
 refine (h.2 s2 w vs rfl rfl hRH2 hr2).mono fun e w' ⟨v, d, s3, he, ⟨σ, hinj, V, hobj⟩, hstep, hRH3, hres⟩ => ?_
 subst V
 have hold : ∀ k, k < w.heap.size -> w'.heap[k]? = w.heap[k]? := fun k O => hstep.keep k O (hno k)
 have hnew3 : ∀ k, owned s3 k -> w.heap.size <= k := fun k O => (hstep.own k O).elim (fun h => (hno k h).elim) id
 have hlive : ∀ j, j < objs.length -> s3.H (σ j) ≠ none := fun j hj => by rw [hobj j hj, List.getElem?_eq_getElem hj]; simp
 have hown3 : ∀ j b, j < objs.length -> blockOf (s3.κ (σ j)) = some b -> owned s3 b := fun j b hj hb => ⟨σ j, hRH3.fresh (hlive j hj), hlive j hj, hb⟩
 let s' := z5v s s3 w w' objs.length σ
 have hm3 : ∀ a u, s3.m a = some u -> s'.m a = some u := by
  intro a u hu
  show (z5v s s3 w w' objs.length σ).m a = some u
  simp only [z5v]
  rcases hstep.new a u hu with h1 | h1 | h1
  ·have hlt := hRH.mem_lt (a := a) (v := u) h1
   rw [if_pos hlt]; exact h1
  ·rw [if_neg (by omega), if_neg]
   ·exact (hRH3.mem a u hu).1
   ·rintro ⟨j, hj, hb⟩
    exact (hRH3.mem a u hu).2 (hown3 j _ hj hb)
  ·exact (hno _ h1).elim
 have hm0 : ∀ a u, s.m a = some u -> s'.m a = some u := by
  intro a u hu
  show (z5v s s3 w w' objs.length σ).m a = some u
  simp only [z5v]
  rw [if_pos (hRH.mem_lt hu)]; exact hu
 have hHnew : ∀ j, j < objs.length -> s'.H (s.nx + j) = s3.H (σ j) /\ s'.κ (s.nx + j) = s3.κ (σ j) := by
  intro j hj
  show (z5v s s3 w w' objs.length σ).H (s.nx + j) = _ /\ (z5v s s3 w w' objs.length σ).κ (s.nx + j) = _
  simp only [z5v]
  rw [if_pos (by omega), if_pos (by omega), Nat.add_sub_cancel_left]
  exact ⟨rfl, rfl⟩
 have hHold : ∀ i, ¬ (s.nx <= i /\ i < s.nx + objs.length) -> s'.H i = s.H i /\ s'.κ i = s.κ i := by
  intro i hi
  show (z5v s s3 w w' objs.length σ).H i = _ /\ (z5v s s3 w w' objs.length σ).κ i = _
  simp only [z5v]
  rw [if_neg hi, if_neg hi]
  exact ⟨rfl, rfl⟩
 have hHlow : ∀ i, i < s.nx -> s'.H i = s.H i /\ s'.κ i = s.κ i := fun i hi => hHold i (by omega)
 have hlate : Later s s' := ⟨by show s.nx <= s.nx + _; omega, hm0, fun id hid => by
  obtain ⟨e1, e2⟩ := hHlow id hid
  rw [e1, e2]; exact objLe.refl _ _⟩
 have hown : ∀ k, owned s' k -> owned s k \/ (w.heap.size <= k /\ ∃ j, j < objs.length /\ blockOf (s3.κ (σ j)) = some k) := by
  rintro k ⟨id, hid, hH, hb⟩
  by_cases hi : s.nx <= id /\ id < s.nx + objs.length
  ·obtain ⟨j, rfl⟩ : ∃ j, id = s.nx + j := ⟨id - s.nx, by omega⟩
   have hj : j < objs.length := by omega
   rw [(hHnew j hj).2] at hb
   exact .inr ⟨hnew3 k (hown3 j k hj hb), j, hj, hb⟩
  ·obtain ⟨e1, e2⟩ := hHold id hi
   rw [e1] at hH; rw [e2] at hb
   exact .inl ⟨id, hRH.fresh hH, hH, hb⟩
 have hfun : s'.H = zsy s.H s.nx objs := by
  funext i
  rw [zh8]
  by_cases hi : s.nx <= i /\ i < s.nx + objs.length
  ·obtain ⟨j, rfl⟩ : ∃ j, i = s.nx + j := ⟨i - s.nx, by omega⟩
   have hj : j < objs.length := by omega
   rw [if_pos hi, (hHnew j hj).1, hobj j hj, Nat.add_sub_cancel_left]
  ·rw [if_neg hi, (hHold i hi).1]
 refine ⟨v, renD (fun j => s.nx + j) r, s', he, ⟨rfl, hfun, rfl⟩, ?_, ?_, zsz hm3 (fun j hj => by show s.nx + j < s.nx + _; omega) hHnew r v hr hres⟩
 ·refine ⟨hstep.os, hstep.tape, hstep.output, hstep.size, hlate.nx, hm0, fun a u hu => ?_, hlate.objs, fun k O _ => hold k O, fun k O => ?_⟩
  ·by_cases hlt : a.block < w.heap.size
   ·refine .inl ?_
    have hu' : (z5v s s3 w w' objs.length σ).m a = some u := hu
    simp only [z5v] at hu'
    rw [if_pos hlt] at hu'; exact hu'
   ·exact .inr (.inl (by omega))
  ·rcases hown k O with h1 | ⟨h1, _⟩
   ·exact .inl h1
   ·exact .inr h1
 ·refine ⟨fun a u hu => ?_, fun id o hido => ?_, fun i j hi hj hij hbi => ?_, fun g => rel.later hlate _ _ (hRH.glob g)⟩
  ·have hu' : (z5v s s3 w w' objs.length σ).m a = some u := hu
   simp only [z5v] at hu'
   split at hu'
   ·rename_i hlt
    obtain ⟨h1, h2⟩ := hRH.mem a u hu'
    refine ⟨by rw [z44 (hold _ hlt)]; exact h1, fun h3 => ?_⟩
    rcases hown _ h3 with h4 | ⟨h4, _⟩
    ·exact h2 h4
    ·omega
   ·rename_i hlt
    split at hu'
    ·cases hu'
    ·rename_i hex
     refine ⟨hu', fun h3 => ?_⟩
     rcases hown _ h3 with h4 | ⟨_, h4⟩
     ·exact hlt (hRH.owned_lt h4)
     ·exact hex h4
  ·by_cases hi : s.nx <= id /\ id < s.nx + objs.length
   ·obtain ⟨j, rfl⟩ : ∃ j, id = s.nx + j := ⟨id - s.nx, by omega⟩
    have hj : j < objs.length := by omega
    obtain ⟨e1, e2⟩ := hHnew j hj
    rw [e1, hobj j hj, List.getElem?_eq_getElem hj] at hido
    cases hido
    refine ⟨by show s.nx + j < s.nx + _; omega, ?_⟩
    rw [e2]
    exact objOK.pure hm3 (ho _ (List.getElem_mem hj)) (hRH3.obj (σ j) _ (by rw [hobj j hj, List.getElem?_eq_getElem hj])).2
   ·obtain ⟨e1, e2⟩ := hHold id hi
    rw [e1] at hido
    obtain ⟨h1, h2⟩ := hRH.obj id o hido
    refine ⟨by show id < s.nx + _; omega, ?_⟩
    rw [e2]
    exact h2.mono hlate fun b hb' => hold b (h2.lt hb')
  ·by_cases h1 : s.nx <= i /\ i < s.nx + objs.length
   ·obtain ⟨i', rfl⟩ : ∃ j, i = s.nx + j := ⟨i - s.nx, by omega⟩
    have hi' : i' < objs.length := by omega
    rw [(hHnew i' hi').2] at hbi ⊢
    cases hb : blockOf (s3.κ (σ i')) with
    | none => exact (hbi hb).elim
    | some b =>
     have F := hnew3 b (hown3 i' b hi' hb)
     by_cases h2 : s.nx <= j /\ j < s.nx + objs.length
     ·obtain ⟨j', rfl⟩ : ∃ j', j = s.nx + j' := ⟨j - s.nx, by omega⟩
      have hj' : j' < objs.length := by omega
      rw [(hHnew j' hj').2, <- hb]
      exact hRH3.apart (σ i') (σ j') (hlive i' hi') (hlive j' hj') (fun e => hij (by rw [hinj i' j' hi' hj' e])) (by rw [hb]; simp)
     ·obtain ⟨e1, e2⟩ := hHold j h2
      rw [e1] at hj; rw [e2]
      intro e
      have := hRH.owned_lt (k := b) ⟨j, hRH.fresh hj, hj, e.symm⟩
      omega
   ·obtain ⟨e1, e2⟩ := hHold i h1
    rw [e1] at hi; rw [e2] at hbi ⊢
    by_cases h2 : s.nx <= j /\ j < s.nx + objs.length
    ·obtain ⟨j', rfl⟩ : ∃ j', j = s.nx + j' := ⟨j - s.nx, by omega⟩
     have hj' : j' < objs.length := by omega
     rw [(hHnew j' hj').2]
     cases hb : blockOf (s.κ i) with
     | none => exact (hbi hb).elim
     | some b =>
      intro e
      have h3 := hnew3 b (hown3 j' b hj' e.symm)
      have := hRH.owned_lt (k := b) ⟨i, hRH.fresh hi, hi, hb⟩
      omega
    ·obtain ⟨e3, e4⟩ := hHold j h2
     rw [e3] at hj; rw [e4]
     exact hRH.apart i j hi hj hij hbi

section
variable {st : St} {dst : Option Nat} {n : FuncId} {cap args : List D} {g : List Oper -> (St -> Prop) -> St -> Prop} {rest : List Oper} {K : St -> Prop}
theorem OC.ac {f : FuncId} {ds : List D} {objs : List HObj} {r : D} (h : OC P f ds objs r) {H : HM} {nx : Nat} {K : D -> HM -> Nat -> Prop} (O : K (renD (fun j => nx + j) r) (zsy H nx objs) (nx + objs.length)) : AC P f ds H nx K :=
 (h.2.2.2 H nx).mono fun _ _ _ ⟨h1, h2, h3⟩ => by subst h1; subst h2; subst h3; exact O
theorem zn3 {objs : List HObj} {r : D} (h : OC P n (args ++ cap) objs r) (O : g rest K ((st.withH (zsy st.H st.nx objs) (st.nx + objs.length)).put dst (renD (fun j => st.nx + j) r))) : zq0 P (.fn n cap) args g rest K st dst :=
 zb6 (h.ac O)
end
attribute [go_sem] zsy renD renD.renL
end Go.Proofs.YtppebcifiejplaaGreatDoor.Abs
namespace Go.Proofs.YtppebcifiejplaaGreatDoor.Abs
open Go.RowKit
variable {P : Program}

def lowD (n : Nat) : D -> Bool
 | .osl j _ => decide (j < n)
 | .ptr j _ => decide (j < n)
 | .eptr j _ _ => decide (j < n)
 | .mp j => decide (j < n)
 | .it j => decide (j < n)
 | .agg ds => lowL ds
 | .tup ds => lowL ds
 | .rsl _ _ els => lowL els
 | .fsl _ els => lowL els
 | .rptr d => lowD n d
 | .fn _ cap => lowL cap
 | .bfn _ first => lowL first
 | _ => true
where lowL : List D -> Bool
 | [] => true
 | d :: ds => lowD n d && lowL ds
def lowO (n : Nat) : HObj -> Bool
 | .box _ cs => lowD.lowL n cs
 | .row _ _ cs => lowD.lowL n cs
 | .map es => lowD.lowL n (es.map (·.1)) && lowD.lowL n (es.map (·.2))
 | .raw _ => true
mutual
theorem zd8 (n : Nat) : ∀ d, pureD d = true -> lowD n d = true
 | .agg ds, h => by simp only [pureD] at h; simp only [lowD]; exact z3e n ds h
 | .tup ds, h => by simp only [pureD] at h; simp only [lowD]; exact z3e n ds h
 | .rsl _ _ els, h => by simp only [pureD] at h; simp only [lowD]; exact z3e n els h
 | .fsl _ els, h => by simp only [pureD] at h; simp only [lowD]; exact z3e n els h
 | .rptr d, h => by simp only [pureD] at h; simp only [lowD]; exact zd8 n d h
 | .fn _ cap, h => by simp only [pureD] at h; simp only [lowD]; exact z3e n cap h
 | .bfn _ first, h => by simp only [pureD] at h; simp only [lowD]; exact z3e n first h
 | .any, _ => rfl
 | .int _ _, _ => rfl
 | .bool _, _ => rfl
 | .str _, _ => rfl
 | .nil, _ => rfl
 | .nptr, _ => rfl
 | .nfun, _ => rfl
 | .nmp, _ => rfl
 | .e0, _ => rfl
 | .osl .., h => by cases h
 | .ptr .., h => by cases h
 | .eptr .., h => by cases h
 | .mp _, h => by cases h
 | .it _, h => by cases h
theorem z3e (n : Nat) : ∀ ds, pureD.pureL ds = true -> lowD.lowL n ds = true
 | [], _ => rfl
 | d :: ds, h => by
  simp only [pureD.pureL, Bool.and_eq_true] at h
  simp only [lowD.lowL, zd8 n d h.1, z3e n ds h.2, Bool.and_self]
end
mutual
theorem zn4 {s : RS} : ∀ (d : D) (v : Value), rel s d v -> lowD s.nx d = true
 | .agg ds, v, h => by simp only [rel] at h; obtain ⟨vs, _, h2, _⟩ := h; simp only [lowD]; exact z4a ds vs h2
 | .tup ds, v, h => by simp only [rel] at h; obtain ⟨vs, _, h2⟩ := h; simp only [lowD]; exact z4a ds vs h2
 | .rsl _ _ els, v, h => by
  simp only [rel] at h
  simp only [lowD]
  rcases h with ⟨_, h, _⟩ | ⟨_, _, vs, _, _, _, h4, _⟩
  ·rw [h]; rfl
  ·exact z4a els vs h4
 | .fsl _ els, v, h => by
  simp only [rel] at h
  simp only [lowD]
  rcases h with ⟨h, _⟩ | ⟨_, vs, _, _, h4, _⟩
  ·rw [h]; rfl
  ·exact z4a els vs h4
 | .rptr d, v, h => by simp only [rel] at h; obtain ⟨_, u, _, h2, _⟩ := h; simp only [lowD]; exact zn4 d u h2
 | .fn _ cap, v, h => by simp only [rel] at h; obtain ⟨vs, _, h2⟩ := h; simp only [lowD]; exact z4a cap vs h2
 | .bfn _ first, v, h => by simp only [rel] at h; obtain ⟨vs, _, h2⟩ := h; simp only [lowD]; exact z4a first vs h2
 | .any, _, _ => rfl
 | .int _ _, _, _ => rfl
 | .bool _, _, _ => rfl
 | .str _, _, _ => rfl
 | .nil, _, _ => rfl
 | .nptr, _, _ => rfl
 | .nfun, _, _ => rfl
 | .nmp, _, _ => rfl
 | .e0, _, _ => rfl
 | .osl .., v, h => by simp only [rel] at h; simp only [lowD, decide_eq_true_iff]; exact h.1
 | .ptr .., v, h => by simp only [rel] at h; simp only [lowD, decide_eq_true_iff]; exact h.1
 | .eptr .., v, h => by simp only [rel] at h; simp only [lowD, decide_eq_true_iff]; exact h.1
 | .mp _, v, h => by simp only [rel] at h; simp only [lowD, decide_eq_true_iff]; exact h.1
 | .it _, v, h => by simp only [rel] at h; simp only [lowD, decide_eq_true_iff]; exact h.1
theorem z4a {s : RS} : ∀ (ds : List D) (vs : List Value), relAll s ds vs -> lowD.lowL s.nx ds = true
 | [], _, _ => rfl
 | d :: ds, vs, h => by
  simp only [relAll] at h
  obtain ⟨v, r, _, h1, h2⟩ := h
  simp only [lowD.lowL, zn4 d v h1, z4a ds r h2, Bool.and_self]
end
theorem zt0 {s : RS} {w : World} {v : Value} {o : HObj} (h : objOK P s w v o) : lowO s.nx o = true := by
 cases o with
 | box e cs => obtain ⟨_, vs, _, _, h, _⟩ := h; exact z4a cs vs h
 | row e n cs => obtain ⟨vs, _, h, _⟩ := h; exact z4a cs vs h
 | map es => obtain ⟨_, _, _, _, _, h1, h2, _⟩ := h; simp only [lowO, z4a _ _ h1, z4a _ _ h2, Bool.and_self]
 | raw o => rfl
mutual
theorem zll {s s' : RS} {n : Nat} (hm : ∀ a v, s.m a = some v -> s'.m a = some v) (hn : n <= s'.nx) (hH : ∀ id, id < n -> s'.H id = s.H id /\ s'.κ id = s.κ id) :
  ∀ (d : D) (v : Value), lowD n d = true -> rel s d v -> rel s' d v
 | .agg ds, v, hl, h => by
  simp only [lowD] at hl; simp only [rel] at h ⊢
  obtain ⟨vs, h1, h2, h3⟩ := h
  exact ⟨vs, h1, z2t hm hn hH ds vs hl h2, h3⟩
 | .tup ds, v, hl, h => by
  simp only [lowD] at hl; simp only [rel] at h ⊢
  obtain ⟨vs, h1, h2⟩ := h
  exact ⟨vs, h1, z2t hm hn hH ds vs hl h2⟩
 | .rsl nn sz els, v, hl, h => by
  simp only [lowD] at hl; simp only [rel] at h ⊢
  rcases h with h | ⟨a, cap, vs, h1, h2, h3, h4, h5⟩
  ·exact .inl h
  ·exact .inr ⟨a, cap, vs, h1, h2, h3, z2t hm hn hH els vs hl h4, fun i u hu => ⟨(h5 i u hu).1, (h5 i u hu).2.later hm⟩⟩
 | .fsl sz els, v, hl, h => by
  simp only [lowD] at hl; simp only [rel] at h ⊢
  rcases h with h | ⟨a, vs, h1, h3, h4, h5⟩
  ·exact .inl h
  exact .inr ⟨a, vs, h1, h3, z2t hm hn hH els vs hl h4, fun i u hu => ⟨(h5 i u hu).1, (h5 i u hu).2.later hm⟩⟩
 | .rptr d, v, hl, h => by
  simp only [lowD] at hl; simp only [rel] at h ⊢
  obtain ⟨a, u, h1, h2, h3⟩ := h
  exact ⟨a, u, h1, zll hm hn hH d u hl h2, h3.later hm⟩
 | .fn f cap, v, hl, h => by
  simp only [lowD] at hl; simp only [rel] at h ⊢
  obtain ⟨vs, h1, h2⟩ := h
  exact ⟨vs, h1, z2t hm hn hH cap vs hl h2⟩
 | .bfn f first, v, hl, h => by
  simp only [lowD] at hl; simp only [rel] at h ⊢
  obtain ⟨vs, h1, h2⟩ := h
  exact ⟨vs, h1, z2t hm hn hH first vs hl h2⟩
 | .any, _, _, _ => by simp [rel]
 | .int _ _, v, _, h => by simpa [rel] using h
 | .bool _, v, _, h => by simpa [rel] using h
 | .str _, v, _, h => by simpa [rel] using h
 | .nil, v, _, h => by simpa [rel] using h
 | .nptr, v, _, h => by simpa [rel] using h
 | .nfun, v, _, h => by simpa [rel] using h
 | .nmp, v, _, h => by simpa [rel] using h
 | .e0, v, _, h => by simpa [rel] using h
 | .osl j k, v, hl, h => by
  simp only [lowD, decide_eq_true_iff] at hl; simp only [rel] at h ⊢
  rw [(hH j hl).1, (hH j hl).2]; exact ⟨by omega, h.2⟩
 | .ptr j k, v, hl, h => by
  simp only [lowD, decide_eq_true_iff] at hl; simp only [rel] at h ⊢
  rw [(hH j hl).1, (hH j hl).2]; exact ⟨by omega, h.2⟩
 | .eptr j k o, v, hl, h => by
  simp only [lowD, decide_eq_true_iff] at hl; simp only [rel] at h ⊢
  rw [(hH j hl).1, (hH j hl).2]; exact ⟨by omega, h.2⟩
 | .mp j, v, hl, h => by
  simp only [lowD, decide_eq_true_iff] at hl; simp only [rel] at h ⊢
  rw [(hH j hl).1, (hH j hl).2]; exact ⟨by omega, h.2⟩
 | .it j, v, hl, h => by
  simp only [lowD, decide_eq_true_iff] at hl; simp only [rel] at h ⊢
  rw [(hH j hl).1, (hH j hl).2]; exact ⟨by omega, h.2⟩
theorem z2t {s s' : RS} {n : Nat} (hm : ∀ a v, s.m a = some v -> s'.m a = some v) (hn : n <= s'.nx) (hH : ∀ id, id < n -> s'.H id = s.H id /\ s'.κ id = s.κ id) :
  ∀ (ds : List D) (vs : List Value), lowD.lowL n ds = true -> relAll s ds vs -> relAll s' ds vs
 | [], vs, _, h => by simpa [relAll] using h
 | d :: ds, vs, hl, h => by
  simp only [lowD.lowL, Bool.and_eq_true] at hl
  simp only [relAll] at h ⊢
  obtain ⟨v, r, h1, h2, h3⟩ := h
  exact ⟨v, r, h1, zll hm hn hH d v hl.1 h2, z2t hm hn hH ds r hl.2 h3⟩
end
theorem zt1 {s s' : RS} {n : Nat} {w : World} {v : Value} {o : HObj} (hm : ∀ a v, s.m a = some v -> s'.m a = some v) (hn : n <= s'.nx) (hH : ∀ id, id < n -> s'.H id = s.H id /\ s'.κ id = s.κ id)
  (hl : lowO n o = true) (h : objOK P s w v o) : objOK P s' w v o := by
 cases o with
 | box e cs =>
  obtain ⟨b, vs, h1, h2, h3, h4⟩ := h
  exact ⟨b, vs, h1, h2, z2t hm hn hH _ _ hl h3, h4⟩
 | row e k cs =>
  obtain ⟨vs, h1, h2, h3⟩ := h
  exact ⟨vs, h1, z2t hm hn hH _ _ hl h2, h3⟩
 | map es =>
  simp only [lowO, Bool.and_eq_true] at hl
  obtain ⟨r, ens, c, h1, h2, h3, h4⟩ := h
  exact ⟨r, ens, c, h1, h2, z2t hm hn hH _ _ hl.1 h3, z2t hm hn hH _ _ hl.2 h4.1, h4.2⟩
 | raw o => exact h
def cutH (n : Nat) (H : HM) : HM := fun id => if id < n then H id else none
theorem AC_drop {f : FuncId} {ds : List D} {H : HM} {nx : Nat} {K : D -> HM -> Nat -> Prop} (h : AC P f ds H nx K)
  (O : ∀ r H' nx', K r H' nx' -> lowD nx r = true /\ ∀ id o, id < nx -> H' id = some o -> H id = some o \/ lowO nx o = true) :
  AC P f ds H nx fun r H2 nx2 => nx2 = nx /\ ∃ H' nx', K r H' nx' /\ H2 = cutH nx H' := by
 refine ⟨h.1, fun s w vs h1 h2 h3 h4 => (h.2 s w vs h1 h2 h3 h4).mono fun e w' ⟨v, r, s', he, J, hstep, hRH, hr⟩ => ?_⟩
 subst h1; subst h2
 obtain ⟨hl, hlo⟩ := O _ _ _ J
 let s2 : RS := { s' with H := cutH s.nx s'.H, nx := s.nx }
 have hH : ∀ id, id < s.nx -> s2.H id = s'.H id /\ s2.κ id = s'.κ id := fun id hid => ⟨if_pos hid, rfl⟩
 have hcut : ∀ (d : D) (v : Value), lowD s.nx d = true -> rel s' d v -> rel s2 d v := zll (s := s') (s' := s2) (fun _ _ h => h) (Nat.le_refl _) hH
 have hown : ∀ k, owned s2 k -> owned s' k := fun k ⟨id, hid, h5, h6⟩ => by
  rw [(hH id hid).1] at h5
  exact ⟨id, Nat.lt_of_lt_of_le hid hstep.nx, h5, h6⟩
 refine ⟨v, r, s2, he, ⟨rfl, s'.H, s'.nx, J, rfl⟩, ?_, ?_, hcut r v hl hr⟩
 ·exact ⟨hstep.os, hstep.tape, hstep.output, hstep.size, Nat.le_refl _, hstep.mem, hstep.new, fun id hid => by rw [(hH id hid).1]; exact hstep.objs id hid, hstep.keep, fun k hk' => hstep.own k (hown k hk')⟩
 ·refine ⟨fun a u hm => ⟨(hRH.mem a u hm).1, fun ho => (hRH.mem a u hm).2 (hown _ ho)⟩, fun id o ho => ?_, fun i j hi hj hij hb => ?_, fun g => ?_⟩
  ·have hid : id < s.nx := by
    rcases Nat.lt_or_ge id s.nx with h9 | h9
    ·exact h9
    ·have : s2.H id = none := if_neg (by omega)
     rw [this] at ho; cases ho
   rw [(hH id hid).1] at ho
   refine ⟨hid, zt1 (s := s') (s' := s2) (n := s.nx) (fun _ _ h => h) (Nat.le_refl _) hH ?_ (hRH.obj id o ho).2⟩
   rcases hlo id o hid ho with h9 | h9
   ·exact zt0 (s := s) (h3.obj id o h9).2
   ·exact h9
  ·have lt : ∀ i, s2.H i ≠ none -> i < s.nx /\ s'.H i ≠ none := fun i hi => by
    rcases Nat.lt_or_ge i s.nx with h9 | h9
    ·exact ⟨h9, by rw [<- (hH i h9).1]; exact hi⟩
    ·exact (hi (if_neg (by omega))).elim
   exact hRH.apart i j (lt i hi).2 (lt j hj).2 hij hb
  ·exact hcut _ _ (zd8 _ _ (z77 g)) (hRH.glob g)

def Eff {σ : Type} (P : Program) (f : FuncId) (ds : List D) (lo : Nat) (I : σ -> HM -> Prop) (s s' : σ) (r : D) : Prop :=
 ∀ H nx, lo <= nx -> I s H -> AC P f ds H nx fun r' H' nx' => r' = r /\ nx' = nx /\ I s' H' /\ ∀ id, lo <= id -> H' id = H id
structure Low {σ : Type} (lo : Nat) (I : σ -> HM -> Prop) : Prop where
 loc : ∀ s H H', (∀ id, id < lo -> H' id = H id) -> I s H -> I s H'
 low : ∀ s H, I s H -> ∀ id o, id < lo -> H id = some o -> lowO lo o = true
mutual
theorem zj1 {m n : Nat} (h : m <= n) : ∀ d, lowD m d = true -> lowD n d = true
 | .agg ds, hl => by simp only [lowD] at hl ⊢; exact z3f h ds hl
 | .tup ds, hl => by simp only [lowD] at hl ⊢; exact z3f h ds hl
 | .rsl _ _ els, hl => by simp only [lowD] at hl ⊢; exact z3f h els hl
 | .fsl _ els, hl => by simp only [lowD] at hl ⊢; exact z3f h els hl
 | .rptr d, hl => by simp only [lowD] at hl ⊢; exact zj1 h d hl
 | .fn _ cap, hl => by simp only [lowD] at hl ⊢; exact z3f h cap hl
 | .bfn _ first, hl => by simp only [lowD] at hl ⊢; exact z3f h first hl
 | .any, _ => rfl
 | .int _ _, _ => rfl
 | .bool _, _ => rfl
 | .str _, _ => rfl
 | .nil, _ => rfl
 | .nptr, _ => rfl
 | .nfun, _ => rfl
 | .nmp, _ => rfl
 | .e0, _ => rfl
 | .osl .., hl => by simp only [lowD, decide_eq_true_iff] at hl ⊢; omega
 | .ptr .., hl => by simp only [lowD, decide_eq_true_iff] at hl ⊢; omega
 | .eptr .., hl => by simp only [lowD, decide_eq_true_iff] at hl ⊢; omega
 | .mp _, hl => by simp only [lowD, decide_eq_true_iff] at hl ⊢; omega
 | .it _, hl => by simp only [lowD, decide_eq_true_iff] at hl ⊢; omega
theorem z3f {m n : Nat} (h : m <= n) : ∀ ds, lowD.lowL m ds = true -> lowD.lowL n ds = true
 | [], _ => rfl
 | d :: ds, hl => by
  simp only [lowD.lowL, Bool.and_eq_true] at hl ⊢
  exact ⟨zj1 h d hl.1, z3f h ds hl.2⟩
end
theorem zt2 {m n : Nat} (h : m <= n) {o : HObj} (hl : lowO m o = true) : lowO n o = true := by
 cases o with
 | box e cs => exact z3f h cs hl
 | row e k cs => exact z3f h cs hl
 | map es => simp only [lowO, Bool.and_eq_true] at hl ⊢; exact ⟨z3f h _ hl.1, z3f h _ hl.2⟩
 | raw o => rfl
theorem zas {σ : Type} {f : FuncId} {ds : List D} {lo : Nat} {I : σ -> HM -> Prop} {s s' : σ} {r : D} (hI : Low lo I) (hr : pureD r = true)
  (h : ∀ H nx, lo <= nx -> I s H -> AC P f ds H nx fun r' H' _ => r' = r /\ I s' H' /\ ∀ id, lo <= id -> id < nx -> H' id = H id) : Eff P f ds lo I s s' r := by
 intro H nx hlo hs
 have h1 := AC_drop (h H nx hlo hs) (fun r' H' nx' ⟨hr', hi, hs'⟩ => by
  subst hr'
  refine ⟨zd8 _ _ hr, fun id o hid ho => ?_⟩
  rcases Nat.lt_or_ge id lo with h9 | h9
  ·exact .inr (zt2 hlo (hI.low s' H' hi id o h9 ho))
  ·exact .inl (by rw [<- hs' id h9 hid]; exact ho))
 refine ⟨h1.1, fun s w vs e1 e2 e3 e4 => (h1.2 s w vs e1 e2 e3 e4).mono fun e w' ⟨v, r1, s1, he, ⟨hnx, H', nx', ⟨hr', hi, hs'⟩, hcut⟩, hstep, hRH, hrel⟩ => ⟨v, r1, s1, he, ⟨hr', hnx, ?_, fun id hid => ?_⟩, hstep, hRH, hrel⟩⟩
 ·refine hI.loc _ H' _ (fun id hid => ?_) hi
  rw [hcut]; exact if_pos (by omega)
 ·rw [hcut]
  unfold cutH
  split
  ·rename_i hlt; exact hs' id hid hlt
  ·rename_i hlt
   cases hH : H id with
   | none => rfl
   | some o =>
    have := (e3.obj id o (by rw [e1]; exact hH)).1
    omega
theorem z6w {σ : Type} {lo : Nat} {I : σ -> HM -> Prop} {s s' : σ} {r : D} {n : FuncId} {args cap : List D} {g : List Oper -> (St -> Prop) -> St -> Prop} {rest : List Oper} {K : St -> Prop} {st : St} {dst : Option Nat}
  (h : Eff P n (args ++ cap) lo I s s' r) (hlo : lo <= st.nx) (hs : I s st.H)
  (O : ∀ H', I s' H' -> (∀ id, lo <= id -> H' id = st.H id) -> g rest K ((st.withH H' st.nx).put dst r)) : zq0 P (.fn n cap) args g rest K st dst :=
 zb6 ((h st.H st.nx hlo hs).mono fun r' H' nx' ⟨h1, h2, h3, h4⟩ => by subst h1; subst h2; exact O H' h3 h4)
theorem zj2 {st : St} {b : Nat} {e : TypeId} (e' : TypeId) (hb : st.H b = some (.box e [.nil])) :
  SealTo P st { st with H := z1f (z1f st.H st.nx (some (.row e' 0 []))) b (some (.box e [.osl st.nx 0])), nx := st.nx + 1 } := by
 intro N s a w hf
 have hHb : s.H b = some (.box e [.nil]) := by rw [hf.H]; exact hb
 have hne : b ≠ s.nx := by have := (hf.heap.obj b _ hHb).1; omega
 obtain ⟨g1, g2⟩ := z5b hf.heap (Grew.refl w) (.row e' 0 []) (.slice none 0 0) (fun b hb => by cases hb) ⟨[], ⟨by simp, .inl ⟨rfl, rfl⟩⟩, z0q, by intro v hv; cases hv⟩
 have hb2 : (s.add (.slice none 0 0) (.row e' 0 [])).H b = some (.box e [.nil]) := by simp [RS.add, z1f, hne, hHb]
 obtain ⟨_, q2⟩ := g2.obj b _ hb2
 obtain ⟨g3, g4⟩ := zab (w' := w) g2 b _ (.box e [.osl s.nx 0]) ((s.add (.slice none 0 0) (.row e' 0 [])).κ b) hb2 rfl rfl rfl (Nat.le_refl _) (fun _ _ _ => rfl) (.inr ⟨_, rfl, rfl⟩) (fun b hb => .inl hb) (fun hl => by
  obtain ⟨b', vs, u1, u2, u3, u4⟩ := q2
  refine ⟨b', vs, u1, u2, ?_, u4⟩
  simp only [relAll, rel] at u3
  obtain ⟨v, r, rfl, rfl, rfl⟩ := u3
  refine z0m ?_ z0q
  simp only [rel]
  refine ⟨by simp [RS.set, RS.add], ⟨_, _, rfl⟩, fun e2 k cs hH => ⟨Nat.zero_le _, fun _ => ?_⟩⟩
  simp only [RS.set, RS.add]
  rw [if_neg (fun h => hne h.symm)]
  simp)
 refine ⟨_, ⟨?_, ?_, hf.size, hf.defers, fun i => rel.later (g1.trans g3).later _ _ (hf.tmps i), g4⟩, g1.trans g3⟩
 ·simp only [RS.set, RS.add, hf.H, hf.nx]
 ·simp only [RS.set, RS.add, hf.nx]
theorem z3g {id : Nat} {l : List Oper} {b : Code} {own : List Nat} {Q : Exit -> St -> Prop} {st : St} (h : ∀ K : St -> Prop, (∀ st st', SealTo P st st' -> awp P own b Q st' -> K st) -> z2b P own (l.map (·.dst)) l K st) : awp P own (.seq (.region id l.toArray false) b) Q st :=
 ⟨fun h => (by cases h), fun _ => h _ fun _ st' hs hb => ⟨st', hs, hb⟩⟩
theorem zn5 {σ : Type} {lo : Nat} (objs : σ -> List HObj) (hl : ∀ s, (objs s).length = lo) (ho : ∀ s, ∀ o ∈ objs s, lowO lo o = true) : Low lo fun s H => ∀ j, j < lo -> H j = (objs s)[j]? :=
 ⟨fun s H H' h hs j hj => (h j hj).trans (hs j hj), fun s H hs id o hid hH => by
  rw [hs id hid] at hH
  exact ho s o (List.mem_of_getElem? hH)⟩
end Go.Proofs.YtppebcifiejplaaGreatDoor.Abs
namespace Go.Proofs.YtppebcifiejplaaGreatDoor.Abs
open Go.RowKit
variable {P : Program}
theorem z01 : (∀ (p : Prop) [Decidable p], (decide p = true) = p) /\ (∀ (p : Prop) [Decidable p], (decide p = false) = ¬p) /\ (∀ p : Prop, (¬¬p) ↔ p) /\ (∀ (α : Type) [BEq α] [LawfulBEq α] (a b : α), (a == b) = true ↔ a = b) /\ (∀ (α : Type) [BEq α] [LawfulBEq α] (a b : α), (a == b) = false ↔ a ≠ b) /\ (∀ (α : Type) [BEq α] [LawfulBEq α] (a b : α), (a != b) = true ↔ a ≠ b) /\ (∀ (α : Type) (a b : α), (a ≠ b) = ¬(a = b)) /\ (∀ b : Bool, ((!b) = true) = (b = false)) /\ (∀ b : Bool, ((!b) = false) = (b = true)) /\ (∀ a b : Bool, ((a && b) = true) = (a = true /\ b = true)) /\ (∀ a b : Bool, ((a || b) = true) = (a = true \/ b = true)) /\ (∀ a b : Bool, ((a && b) = false) = (a = true -> b = false)) /\ (∀ a b : Bool, ((a || b) = false) = (a = false /\ b = false)) /\ (∀ b : Bool, (¬(b = true)) = (b = false)) /\ (∀ b : Bool, (¬(b = false)) = (b = true)) :=
 ⟨fun p _ => decide_eq_true_eq, fun p _ => by simp, fun p => Classical.not_not, fun α _ _ a b => beq_iff_eq, fun α _ _ a b => beq_eq_false_iff_ne, fun α _ _ a b => bne_iff_ne, fun α a b => rfl, fun b => by cases b <;> simp, fun b => by cases b <;> simp, fun a b => by cases a <;> cases b <;> simp, fun a b => by cases a <;> cases b <;> simp, fun a b => by cases a <;> cases b <;> simp, fun a b => by cases a <;> cases b <;> simp, fun b => by cases b <;> simp, fun b => by cases b <;> simp⟩
end Go.Proofs.YtppebcifiejplaaGreatDoor.Abs
namespace Go.Proofs.YtppebcifiejplaaGreatDoor.Abs
open Go.RowKit Go.ChangeShapes

def elD (ag : Bool) (p : List D) : D := if ag = true then .agg p else (p[0]?).getD .any
def elV (ag : Bool) (p : List Value) : Value := if ag = true then .agg p.toArray else (p[0]?).getD undef
def zhe (T : TypeId -> List D -> Prop) : List Field -> List D -> Prop
 | [], ds => ds = []
 | f :: fs, ds => ∃ d1 d2, ds = d1 ++ d2 /\ T f.type d1 /\ zhe T fs d2
def z3u (P : Program) : Nat -> TypeId -> List D -> Prop
 | 0, _, _ => False
 | n + 1, t, ds => match P.underlying t with
  | some .bool => ∃ b, ds = [.bool b]
  | some (.int k) => ∃ i, ds = [.int k i] /\ (Lit.int k i).wf = true
  | some .string => ∃ s : ByteArray, ds = [.str s] /\ s.size <= maxLen
  | some (.slice e) => ∃ parts : List (List D), parts.length <= maxLen /\ (∀ p ∈ parts, z3u P n e p) /\ ds = [.rsl false (z02 P e) (parts.map (elD (z04 P e)))]
  | some (.struct fs) => zhe (z3u P n) fs.toList ds
  | _ => False
def zjl (P : Program) (n : Nat) : List Field -> Nat -> Bool
 | [], off => off == n
 | f :: fs, off => f.offset == off && zjl P n fs (off + P.cellsOf f.type)
def zlo (P : Program) (S : List TypeId) : Bool :=
 S.all fun t => match P.underlying t with
  | some .bool | some (.int _) | some .string => true
  | some (.slice e) => S.any fun u => u == e
  | some (.struct fs) => zjl P (P.cellsOf t) fs.toList 0 && fs.toList.all fun f => S.any fun u => u == f.type
  | _ => false

section
variable {H : Type} {enc : TypeId × Value -> H} {P : Program} {W : World} {base : Nat} {spare : Nat -> Bool} {held : Bool}
theorem ztr {S : List TypeId} {e : TypeId} (h : (S.any fun u => u == e) = true) : e ∈ S := by
 obtain ⟨x, hx, he⟩ := List.any_eq_true.1 h
 rw [<- beq_iff_eq.1 he]; exact hx
theorem z5j {d : D} {v : Value} (h : rel (z6j W) d v) (h1 : v.oneCell' = true) : relAll (z6j W) [d] [v] /\ z5t [v] :=
 ⟨z0m h z0q, fun u hu => by simp at hu; subst hu; exact h1⟩
theorem zpe {S : List TypeId} (hS : zlo P S = true) : ∀ (n : Nat) (t : TypeId) (cs : List Value) (x : DataW H × List MemPlace), t ∈ S -> DataW.trod enc P W base spare held n t cs = some x ->
  ∃ ds, relAll (z6j W) ds cs /\ z5t cs /\ z3u P n t ds /\ (z04 P t = false -> ∃ c d, cs = [c] /\ ds = [d]) := by
 intro n
 induction n with
 | zero => intro t cs x _ h; simp [DataW.trod] at h
 | succ n ih =>
  intro t cs x ht h
  have hc := List.all_eq_true.1 hS t ht
  cases hu : P.underlying t with
  | none => rw [hu] at hc; cases hc
  | some td =>
   rw [hu] at hc
   cases td <;> first | (cases hc; done) | skip
   case bool =>
    obtain ⟨b, rfl, _⟩ := DataW.trod_bool hu h
    obtain ⟨h1, h2⟩ := z5j (W := W) (d := .bool b) (v := .bool b) (by simp [rel]) rfl
    exact ⟨_, h1, h2, by simp only [z3u, hu]; exact ⟨b, rfl⟩, fun _ => ⟨_, _, rfl, rfl⟩⟩
   case int k =>
    obtain ⟨i, rfl, _, hw⟩ := DataW.trod_int hu h
    obtain ⟨h1, h2⟩ := z5j (W := W) (d := .int k i) (v := .int k i) (by simp [rel]) rfl
    exact ⟨_, h1, h2, by simp only [z3u, hu]; exact ⟨i, rfl, hw⟩, fun _ => ⟨_, _, rfl, rfl⟩⟩
   case string =>
    obtain ⟨s, rfl, _, hw⟩ := DataW.trod_string hu h
    obtain ⟨h1, h2⟩ := z5j (W := W) (d := .str s) (v := .string s) (by simp [rel]) rfl
    exact ⟨_, h1, h2, by simp only [z3u, hu]; exact ⟨s, rfl, hw⟩, fun _ => ⟨_, _, rfl, rfl⟩⟩
   case slice e =>
    have he := ztr hc
    rcases DataW.trod_slice hu h with ⟨rfl, _⟩ | ⟨a, len, cap, elems, rest, m, hm, rfl, _, _, hl, hcm, hlen, hel, _⟩
    ·obtain ⟨h1, h2⟩ := z5j (W := W) (d := .rsl false (z02 P e) []) (v := .slice none 0 0) (by simp only [rel]; exact .inl ⟨trivial, trivial, trivial⟩) rfl
     exact ⟨_, h1, h2, by simp only [z3u, hu]; exact ⟨[], by simp, by simp, rfl⟩, fun _ => ⟨_, _, rfl, rfl⟩⟩
    ·cases hm
     have each : ∀ i : _root_.Fin len, ∃ p : List Value × List D, W.cells? base (a.add (i * P.cellsOf e)) (P.cellsOf e) = some p.1 /\ relAll (z6j W) p.2 p.1 /\ z5t p.1 /\ z3u P n e p.2 /\ (z04 P e = false -> ∃ c d, p.1 = [c] /\ p.2 = [d]) := by
      intro i
      have hi := hel i i.2
      rw [List.getElem?_eq_getElem (by omega), Option.bind_eq_some_iff] at hi
      obtain ⟨cs', h1, h2⟩ := hi
      obtain ⟨ds, k1, k2, k3, k4⟩ := ih e cs' _ he h2
      exact ⟨(cs', ds), h1, k1, k2, k3, k4⟩
     obtain ⟨f, hf⟩ := Classical.axiomOfChoice each
     have hag : ∀ i, rel (z6j W) (elD (z04 P e) (f i).2) (elV (z04 P e) (f i).1) /\ (elV (z04 P e) (f i).1).cells.toList = (f i).1 := by
      intro i
      obtain ⟨h1, h2, h3, h4, h5⟩ := hf i
      cases hag : z04 P e with
      | true =>
       simp only [elD, elV, if_true, Value.cells]
       exact ⟨by simp only [rel]; exact ⟨_, rfl, h2, h3⟩, trivial⟩
      | false =>
       obtain ⟨c, d, hc1, hd1⟩ := h5 hag
       rw [hc1, hd1] at h2
       rw [hc1] at h3
       simp only [elD, elV, hc1, hd1, Bool.false_eq_true, if_false, List.getElem?_cons_zero, Option.getD_some]
       simp only [relAll] at h2
       obtain ⟨v, r, hv, hrel, hr⟩ := h2
       simp only [List.cons.injEq] at hv
       obtain ⟨rfl, rfl⟩ := hv
       refine ⟨hrel, ?_⟩
       rw [z21 (h3 c (by simp))]
     have hsz : z02 P e = P.cellsOf e := rfl
     obtain ⟨h1, h2⟩ := z5j (W := W) (d := .rsl false (z02 P e) ((List.ofFn fun i => (f i).2).map (elD (z04 P e)))) (v := .slice (some a) len cap) (by
      simp only [rel]
      refine .inr ⟨a, cap, List.ofFn fun i => elV (z04 P e) (f i).1, by simp, by simpa using hl, hcm, z4j (by simp) (fun i d v V hv => ?_), fun i v hv => ?_⟩
      ·simp only [List.getElem?_map, List.getElem?_ofFn] at V hv
       split at hv
       ·rename_i hi
        rw [dif_pos hi] at V
        simp only [Option.map_some, Option.some.injEq] at V hv
        subst V; subst hv
        exact (hag ⟨i, hi⟩).1
       ·cases hv
      ·simp only [List.getElem?_ofFn] at hv
       split at hv
       ·rename_i hi
        simp only [Option.some.injEq] at hv
        subst hv
        obtain ⟨g1, _⟩ := hf ⟨i, hi⟩
        obtain ⟨_, g2, g3⟩ := World.cells?_some g1
        have g4 := (hag ⟨i, hi⟩).2
        refine ⟨by rw [<- Array.length_toList, g4, g2, hsz], fun j c hj => ?_⟩
        rw [g4] at hj
        have hjl : j < P.cellsOf e := by rw [<- g2]; exact (List.getElem?_eq_some_iff.1 hj).1
        have := g3 j hjl
        rw [hj] at this
        exact this
       ·cases hv) rfl
     refine ⟨_, h1, h2, ?_, fun _ => ⟨_, _, rfl, rfl⟩⟩
     simp only [z3u, hu]
     refine ⟨List.ofFn fun i => (f i).2, by simp; omega, fun p hp => ?_, rfl⟩
     obtain ⟨i, rfl⟩ := List.mem_ofFn.1 hp
     exact (hf i).2.2.2.1
   case struct fs =>
    obtain ⟨xs, m, hm, _, hcl, hxl, hxf⟩ := DataW.trod_struct hu h
    cases hm
    simp only [Bool.and_eq_true] at hc
    obtain ⟨htile, hfs⟩ := hc
    have key : ∀ (l : List Field) (off k : Nat), (∀ i, l[i]? = fs[k + i]?) -> zjl P (P.cellsOf t) l off = true -> ∃ ds, relAll (z6j W) ds (cs.drop off) /\ z5t (cs.drop off) /\ zhe (z3u P n) l ds := by
     intro l
     induction l with
     | nil =>
      intro off k _ ht'
      simp only [zjl, beq_iff_eq] at ht'
      subst ht'
      rw [<- hcl, List.drop_length]
      exact ⟨[], z0q, fun v hv => by simp at hv, rfl⟩
     | cons g l ihl =>
      intro off k hl ht'
      simp only [zjl, Bool.and_eq_true, beq_iff_eq] at ht'
      obtain ⟨rfl, ht'⟩ := ht'
      have hg : fs[k]? = some g := by have := hl 0; simpa using this.symm
      have hlt : k < fs.size := (Array.getElem?_eq_some_iff.1 hg).1
      have hx := hxf k g hg
      rw [List.getElem?_eq_getElem (by omega)] at hx
      have hmem : g ∈ fs.toList := by
       obtain ⟨h1, h2⟩ := Array.getElem?_eq_some_iff.1 hg
       rw [<- h2]; exact Array.mem_toList_iff.2 (Array.getElem_mem h1)
      obtain ⟨d1, r1, r2, r3, _⟩ := ih g.type _ _ (ztr (List.all_eq_true.1 hfs g hmem)) hx
      obtain ⟨d2, q1, q2, q3⟩ := ihl (g.offset + P.cellsOf g.type) (k + 1) (fun i => by have := hl (i + 1); simpa [Nat.add_assoc, Nat.add_comm 1 i] using this) ht'
      have hsp : cs.drop g.offset = (cs.drop g.offset).take (P.cellsOf g.type) ++ cs.drop (g.offset + P.cellsOf g.type) := by
       rw [<- List.drop_drop, List.take_append_drop]
      rw [hsp]
      exact ⟨d1 ++ d2, z1n r1 q1, fun v hv => by
       rcases List.mem_append.1 hv with hv | hv
       ·exact r2 v hv
       ·exact q2 v hv, d1, d2, rfl, r3, q3⟩
    obtain ⟨ds, h1, h2, h3⟩ := key fs.toList 0 0 (fun i => by simp) htile
    rw [List.drop_zero] at h1 h2
    refine ⟨ds, h1, h2, by simp only [z3u, hu]; exact h3, fun hag => ?_⟩
    simp only [z04, hu] at hag
    cases hag
theorem zts {S : List TypeId} (hS : zlo P S = true) {t : TypeId} {cs : Array Value} {d : DataW H} {p : List MemPlace} (ht : t ∈ S) (h : DataW.Trod enc P W base spare held t (.agg cs) d p) :
  ∃ n ds, z3u P n t ds /\ rel (z6j W) (.agg ds) (.agg cs) := by
 obtain ⟨n, h⟩ := h
 obtain ⟨ds, h1, h2, h3, _⟩ := zpe hS n t _ _ ht h
 refine ⟨n, ds, h3, ?_⟩
 simp only [rel]
 exact ⟨cs.toList, by simp, by simpa [Value.cells] using h1, by simpa [Value.cells] using h2⟩
end
section
variable {P : Program} {n : Nat} {t e : TypeId} {d : D} {ds : List D}
theorem wf_i64 {i : Int} (h : (Lit.int .i64 i).wf = true) : -9223372036854775808 <= i /\ i <= 9223372036854775807 := by
 simp only [Lit.wf, Bool.and_eq_true, decide_eq_true_eq] at h
 exact h
theorem z1t (hu : P.underlying t = some (.int .i64)) (h : z3u P n t ds) : ∃ i : Int, ds = [.int .i64 i] /\ -9223372036854775808 <= i /\ i <= 9223372036854775807 := by
 cases n with
 | zero => exact h.elim
 | succ n =>
  simp only [z3u, hu] at h
  obtain ⟨i, h1, h2⟩ := h
  exact ⟨i, h1, wf_i64 h2⟩
theorem z4x (hu : P.underlying t = some .string) (h : z3u P n t ds) : ∃ s : ByteArray, ds = [.str s] /\ s.size <= maxLen := by
 cases n with
 | zero => exact h.elim
 | succ n => simpa only [z3u, hu] using h
theorem z5x (hu : P.underlying t = some (.slice e)) (h : z3u P n t ds) : ∃ (m : Nat) (parts : List (List D)), n = m + 1 /\ parts.length <= maxLen /\ (∀ p ∈ parts, z3u P m e p) /\ ds = [.rsl false (z02 P e) (parts.map (elD (z04 P e)))] := by
 cases n with
 | zero => exact h.elim
 | succ n =>
  simp only [z3u, hu] at h
  obtain ⟨parts, h1, h2, h3⟩ := h
  exact ⟨n, parts, rfl, h1, h2, h3⟩
theorem z2x {fs : Array Field} (hu : P.underlying t = some (.struct fs)) (h : z3u P n t ds) : ∃ m, n = m + 1 /\ zhe (z3u P m) fs.toList ds := by
 cases n with
 | zero => exact h.elim
 | succ n => exact ⟨n, rfl, by simpa only [z3u, hu] using h⟩
theorem z3k {α : Type} {good : List D -> Prop} {f : α -> List D} {q : α -> Prop} (h : ∀ p, good p -> ∃ x, p = f x /\ q x) : ∀ (parts : List (List D)), (∀ p ∈ parts, good p) -> ∃ l : List α, parts = l.map f /\ (∀ x ∈ l, q x)
 | [], _ => ⟨[], rfl, by simp⟩
 | p :: parts, hp => by
  obtain ⟨x, hx, hq⟩ := h p (hp p (by simp))
  obtain ⟨l, hl, hq'⟩ := z3k h parts (fun p' hp' => hp p' (by simp [hp']))
  exact ⟨x :: l, by simp [hx, hl], by simp; exact ⟨hq, hq'⟩⟩
theorem zga (hu : P.underlying t = some (.slice e)) (he : P.underlying e = some .string) (hs : z02 P e = 1) (h : z3u P n t ds) : ∃ l : List ByteArray, ds = [z3b l] /\ l.length <= maxLen /\ ∀ s ∈ l, s.size <= maxLen := by
 obtain ⟨m, parts, rfl, hl, hp, rfl⟩ := z5x hu h
 obtain ⟨l, rfl, hq⟩ := z3k (f := fun s => [D.str s]) (q := fun s : ByteArray => s.size <= maxLen) (fun p hp => z4x he hp) parts hp
 have hag : z04 P e = false := by simp [z04, he]
 refine ⟨l, ?_, by simpa using hl, hq⟩
 simp only [z3b, hag, hs, List.map_map]
 rfl
end
end Go.Proofs.YtppebcifiejplaaGreatDoor.Abs
namespace Go.Proofs.YtppebcifiejplaaGreatDoor.Facts
open Go.Proofs.YtppebcifiejplaaGreatDoor.Abs
@[go_sem] theorem ty1 : z04 Tryz.prog 1 = false /\ z0n Tryz.prog 1 = true /\ z0x Tryz.prog 1 = none /\ z3n Tryz.prog 1 = none /\ z3q Tryz.prog 1 = none /\ z3m Tryz.prog 1 = false /\ z1k Tryz.prog 1 = false /\ z3i Tryz.prog 1 = none /\ z02 Tryz.prog 1 = 1 /\ z0k Tryz.prog 1 = 8 /\ z17 Tryz.prog 1 = some [D.nfun] /\ z0g Tryz.prog 1 = true := by refine ⟨?_, ?_, ?_, ?_, ?_, ?_, ?_, ?_, ?_, ?_, ?_, ?_⟩ <;> kernel_rfl
@[go_sem] theorem ty2 : z04 Tryz.prog 2 = false /\ z0n Tryz.prog 2 = true /\ z0x Tryz.prog 2 = none /\ z3n Tryz.prog 2 = none /\ z3q Tryz.prog 2 = some .i64 /\ z3m Tryz.prog 2 = false /\ z1k Tryz.prog 2 = false /\ z3i Tryz.prog 2 = none /\ z02 Tryz.prog 2 = 1 /\ z0k Tryz.prog 2 = 8 /\ z17 Tryz.prog 2 = some [D.int .i64 0] /\ z0g Tryz.prog 2 = true := by refine ⟨?_, ?_, ?_, ?_, ?_, ?_, ?_, ?_, ?_, ?_, ?_, ?_⟩ <;> kernel_rfl
@[go_sem] theorem ty3 : z04 Tryz.prog 3 = false /\ z0n Tryz.prog 3 = true /\ z0x Tryz.prog 3 = none /\ z3n Tryz.prog 3 = none /\ z3q Tryz.prog 3 = some .i64 /\ z3m Tryz.prog 3 = false /\ z1k Tryz.prog 3 = false /\ z3i Tryz.prog 3 = none /\ z02 Tryz.prog 3 = 1 /\ z0k Tryz.prog 3 = 8 /\ z17 Tryz.prog 3 = some [D.int .i64 0] /\ z0g Tryz.prog 3 = true := by refine ⟨?_, ?_, ?_, ?_, ?_, ?_, ?_, ?_, ?_, ?_, ?_, ?_⟩ <;> kernel_rfl
theorem z4f : z04 Tryz.prog 3 = false := ty3.1
theorem z4g : z0n Tryz.prog 3 = true := ty3.2.1
theorem z6g : z02 Tryz.prog 3 = 1 := ty3.2.2.2.2.2.2.2.2.1
@[go_sem] theorem ty4 : z04 Tryz.prog 4 = false /\ z0n Tryz.prog 4 = true /\ z0x Tryz.prog 4 = none /\ z3n Tryz.prog 4 = none /\ z3q Tryz.prog 4 = none /\ z3m Tryz.prog 4 = false /\ z1k Tryz.prog 4 = true /\ z3i Tryz.prog 4 = none /\ z02 Tryz.prog 4 = 1 /\ z0k Tryz.prog 4 = 1 /\ z17 Tryz.prog 4 = some [D.bool false] /\ z0g Tryz.prog 4 = true := by refine ⟨?_, ?_, ?_, ?_, ?_, ?_, ?_, ?_, ?_, ?_, ?_, ?_⟩ <;> kernel_rfl
@[go_sem] theorem ty5 : z04 Tryz.prog 5 = false /\ z0n Tryz.prog 5 = true /\ z0x Tryz.prog 5 = none /\ z3n Tryz.prog 5 = none /\ z3q Tryz.prog 5 = some .u8 /\ z3m Tryz.prog 5 = false /\ z1k Tryz.prog 5 = false /\ z3i Tryz.prog 5 = none /\ z02 Tryz.prog 5 = 1 /\ z0k Tryz.prog 5 = 1 /\ z17 Tryz.prog 5 = some [D.int .u8 0] /\ z0g Tryz.prog 5 = true := by refine ⟨?_, ?_, ?_, ?_, ?_, ?_, ?_, ?_, ?_, ?_, ?_, ?_⟩ <;> kernel_rfl
@[go_sem] theorem ty9 : z04 Tryz.prog 9 = false /\ z0n Tryz.prog 9 = true /\ z0x Tryz.prog 9 = none /\ z3n Tryz.prog 9 = none /\ z3q Tryz.prog 9 = none /\ z3m Tryz.prog 9 = true /\ z1k Tryz.prog 9 = false /\ z3i Tryz.prog 9 = none /\ z02 Tryz.prog 9 = 1 /\ z0k Tryz.prog 9 = 16 /\ z17 Tryz.prog 9 = some [D.str ByteArray.empty] /\ z0g Tryz.prog 9 = true := by refine ⟨?_, ?_, ?_, ?_, ?_, ?_, ?_, ?_, ?_, ?_, ?_, ?_⟩ <;> kernel_rfl
theorem z6o : z04 Tryz.prog 9 = false := ty9.1
theorem z8o : z0n Tryz.prog 9 = true := ty9.2.1
theorem z83 : z02 Tryz.prog 9 = 1 := ty9.2.2.2.2.2.2.2.2.1
@[go_sem] theorem ty12 : z04 Tryz.prog 12 = false /\ z0n Tryz.prog 12 = true /\ z0x Tryz.prog 12 = none /\ z3n Tryz.prog 12 = none /\ z3q Tryz.prog 12 = some .u64 /\ z3m Tryz.prog 12 = false /\ z1k Tryz.prog 12 = false /\ z3i Tryz.prog 12 = none /\ z02 Tryz.prog 12 = 1 /\ z0k Tryz.prog 12 = 8 /\ z17 Tryz.prog 12 = some [D.int .u64 0] /\ z0g Tryz.prog 12 = true := by refine ⟨?_, ?_, ?_, ?_, ?_, ?_, ?_, ?_, ?_, ?_, ?_, ?_⟩ <;> kernel_rfl
@[go_sem] theorem ty13 : z04 Tryz.prog 13 = true /\ z0n Tryz.prog 13 = false /\ z0x Tryz.prog 13 = none /\ z3n Tryz.prog 13 = none /\ z3q Tryz.prog 13 = none /\ z3m Tryz.prog 13 = false /\ z1k Tryz.prog 13 = false /\ z3i Tryz.prog 13 = none /\ z02 Tryz.prog 13 = 2 /\ z0k Tryz.prog 13 = 24 /\ z17 Tryz.prog 13 = some [D.str ByteArray.empty, D.int .u64 0] /\ z0g Tryz.prog 13 = true := by refine ⟨?_, ?_, ?_, ?_, ?_, ?_, ?_, ?_, ?_, ?_, ?_, ?_⟩ <;> kernel_rfl
@[go_sem] theorem fieldsOK13 : z2n Tryz.prog 13 = true := by kernel_rfl
@[go_sem] theorem fieldT13_0 : z0y Tryz.prog 13 0 = some (0, 9) := by kernel_rfl
@[go_sem] theorem fieldT13_1 : z0y Tryz.prog 13 1 = some (1, 12) := by kernel_rfl
@[go_sem] theorem ty21 : z04 Tryz.prog 21 = false /\ z0n Tryz.prog 21 = true /\ z0x Tryz.prog 21 = none /\ z3n Tryz.prog 21 = none /\ z3q Tryz.prog 21 = some .i32 /\ z3m Tryz.prog 21 = false /\ z1k Tryz.prog 21 = false /\ z3i Tryz.prog 21 = none /\ z02 Tryz.prog 21 = 1 /\ z0k Tryz.prog 21 = 4 /\ z17 Tryz.prog 21 = some [D.int .i32 0] /\ z0g Tryz.prog 21 = true := by refine ⟨?_, ?_, ?_, ?_, ?_, ?_, ?_, ?_, ?_, ?_, ?_, ?_⟩ <;> kernel_rfl
@[go_sem] theorem ty22 : z04 Tryz.prog 22 = true /\ z0n Tryz.prog 22 = false /\ z0x Tryz.prog 22 = none /\ z3n Tryz.prog 22 = none /\ z3q Tryz.prog 22 = none /\ z3m Tryz.prog 22 = false /\ z1k Tryz.prog 22 = false /\ z3i Tryz.prog 22 = none /\ z02 Tryz.prog 22 = 3 /\ z0k Tryz.prog 22 = 24 /\ z17 Tryz.prog 22 = some [D.int .i64 0, D.int .i64 0, D.int .i64 0] /\ z0g Tryz.prog 22 = true := by refine ⟨?_, ?_, ?_, ?_, ?_, ?_, ?_, ?_, ?_, ?_, ?_, ?_⟩ <;> kernel_rfl
@[go_sem] theorem fieldsOK22 : z2n Tryz.prog 22 = true := by kernel_rfl
@[go_sem] theorem fieldT22_0 : z0y Tryz.prog 22 0 = some (0, 3) := by kernel_rfl
@[go_sem] theorem fieldT22_1 : z0y Tryz.prog 22 1 = some (1, 3) := by kernel_rfl
@[go_sem] theorem fieldT22_2 : z0y Tryz.prog 22 2 = some (2, 3) := by kernel_rfl
@[go_sem] theorem ty23 : z04 Tryz.prog 23 = true /\ z0n Tryz.prog 23 = false /\ z0x Tryz.prog 23 = none /\ z3n Tryz.prog 23 = none /\ z3q Tryz.prog 23 = none /\ z3m Tryz.prog 23 = false /\ z1k Tryz.prog 23 = false /\ z3i Tryz.prog 23 = none /\ z02 Tryz.prog 23 = 3 /\ z0k Tryz.prog 23 = 24 /\ z17 Tryz.prog 23 = some [D.int .i64 0, D.int .i64 0, D.int .i64 0] /\ z0g Tryz.prog 23 = true := by refine ⟨?_, ?_, ?_, ?_, ?_, ?_, ?_, ?_, ?_, ?_, ?_, ?_⟩ <;> kernel_rfl
theorem z7n : z04 Tryz.prog 23 = true := ty23.1
theorem znm : z0n Tryz.prog 23 = false := ty23.2.1
theorem zbw : z02 Tryz.prog 23 = 3 := ty23.2.2.2.2.2.2.2.2.1
@[go_sem] theorem fieldsOK23 : z2n Tryz.prog 23 = true := by kernel_rfl
@[go_sem] theorem fieldT23_0 : z0y Tryz.prog 23 0 = some (0, 3) := by kernel_rfl
@[go_sem] theorem fieldT23_1 : z0y Tryz.prog 23 1 = some (1, 3) := by kernel_rfl
@[go_sem] theorem fieldT23_2 : z0y Tryz.prog 23 2 = some (2, 3) := by kernel_rfl
@[go_sem] theorem ty24 : z04 Tryz.prog 24 = false /\ z0n Tryz.prog 24 = true /\ z0x Tryz.prog 24 = some 122 /\ z3n Tryz.prog 24 = none /\ z3q Tryz.prog 24 = none /\ z3m Tryz.prog 24 = false /\ z1k Tryz.prog 24 = false /\ z3i Tryz.prog 24 = none /\ z02 Tryz.prog 24 = 1 /\ z0k Tryz.prog 24 = 24 /\ z17 Tryz.prog 24 = some [D.nil] /\ z0g Tryz.prog 24 = true := by refine ⟨?_, ?_, ?_, ?_, ?_, ?_, ?_, ?_, ?_, ?_, ?_, ?_⟩ <;> kernel_rfl
@[go_sem] theorem ty25 : z04 Tryz.prog 25 = false /\ z0n Tryz.prog 25 = true /\ z0x Tryz.prog 25 = some 27 /\ z3n Tryz.prog 25 = none /\ z3q Tryz.prog 25 = none /\ z3m Tryz.prog 25 = false /\ z1k Tryz.prog 25 = false /\ z3i Tryz.prog 25 = none /\ z02 Tryz.prog 25 = 1 /\ z0k Tryz.prog 25 = 24 /\ z17 Tryz.prog 25 = some [D.nil] /\ z0g Tryz.prog 25 = true := by refine ⟨?_, ?_, ?_, ?_, ?_, ?_, ?_, ?_, ?_, ?_, ?_, ?_⟩ <;> kernel_rfl
@[go_sem] theorem ty27 : z04 Tryz.prog 27 = true /\ z0n Tryz.prog 27 = false /\ z0x Tryz.prog 27 = none /\ z3n Tryz.prog 27 = none /\ z3q Tryz.prog 27 = none /\ z3m Tryz.prog 27 = false /\ z1k Tryz.prog 27 = false /\ z3i Tryz.prog 27 = none /\ z02 Tryz.prog 27 = 8 /\ z0k Tryz.prog 27 = 120 /\ z17 Tryz.prog 27 = some [D.int .i64 0, D.int .i64 0, D.int .i64 0, D.int .i64 0, D.str ByteArray.empty, D.nil, D.nil, D.nil] /\ z0g Tryz.prog 27 = true := by refine ⟨?_, ?_, ?_, ?_, ?_, ?_, ?_, ?_, ?_, ?_, ?_, ?_⟩ <;> kernel_rfl
theorem z7o : z04 Tryz.prog 27 = true := ty27.1
theorem z6p : z02 Tryz.prog 27 = 8 := ty27.2.2.2.2.2.2.2.2.1
@[go_sem] theorem fieldsOK27 : z2n Tryz.prog 27 = true := by kernel_rfl
@[go_sem] theorem fieldT27_0 : z0y Tryz.prog 27 0 = some (0, 23) := by kernel_rfl
@[go_sem] theorem fieldT27_1 : z0y Tryz.prog 27 1 = some (3, 3) := by kernel_rfl
@[go_sem] theorem fieldT27_2 : z0y Tryz.prog 27 2 = some (4, 9) := by kernel_rfl
@[go_sem] theorem fieldT27_3 : z0y Tryz.prog 27 3 = some (5, 24) := by kernel_rfl
@[go_sem] theorem fieldT27_4 : z0y Tryz.prog 27 4 = some (6, 24) := by kernel_rfl
@[go_sem] theorem fieldT27_5 : z0y Tryz.prog 27 5 = some (7, 25) := by kernel_rfl
@[go_sem] theorem ty28 : z04 Tryz.prog 28 = false /\ z0n Tryz.prog 28 = true /\ z0x Tryz.prog 28 = some 45 /\ z3n Tryz.prog 28 = none /\ z3q Tryz.prog 28 = none /\ z3m Tryz.prog 28 = false /\ z1k Tryz.prog 28 = false /\ z3i Tryz.prog 28 = none /\ z02 Tryz.prog 28 = 1 /\ z0k Tryz.prog 28 = 24 /\ z17 Tryz.prog 28 = some [D.nil] /\ z0g Tryz.prog 28 = true := by refine ⟨?_, ?_, ?_, ?_, ?_, ?_, ?_, ?_, ?_, ?_, ?_, ?_⟩ <;> kernel_rfl
@[go_sem] theorem ptrT31 : zrh Tryz.prog 31 = true := by kernel_rfl
@[go_sem] theorem ty34 : z04 Tryz.prog 34 = false /\ z0n Tryz.prog 34 = true /\ z0x Tryz.prog 34 = none /\ z3n Tryz.prog 34 = none /\ z3q Tryz.prog 34 = some .i64 /\ z3m Tryz.prog 34 = false /\ z1k Tryz.prog 34 = false /\ z3i Tryz.prog 34 = none /\ z02 Tryz.prog 34 = 1 /\ z0k Tryz.prog 34 = 8 /\ z17 Tryz.prog 34 = some [D.int .i64 0] /\ z0g Tryz.prog 34 = true := by refine ⟨?_, ?_, ?_, ?_, ?_, ?_, ?_, ?_, ?_, ?_, ?_, ?_⟩ <;> kernel_rfl
@[go_sem] theorem ty36 : z04 Tryz.prog 36 = false /\ z0n Tryz.prog 36 = true /\ z0x Tryz.prog 36 = none /\ z3n Tryz.prog 36 = none /\ z3q Tryz.prog 36 = none /\ z3m Tryz.prog 36 = false /\ z1k Tryz.prog 36 = false /\ z3i Tryz.prog 36 = none /\ z02 Tryz.prog 36 = 1 /\ z0k Tryz.prog 36 = 8 /\ z17 Tryz.prog 36 = some [D.nfun] /\ z0g Tryz.prog 36 = true := by refine ⟨?_, ?_, ?_, ?_, ?_, ?_, ?_, ?_, ?_, ?_, ?_, ?_⟩ <;> kernel_rfl
@[go_sem] theorem ty37 : z04 Tryz.prog 37 = false /\ z0n Tryz.prog 37 = true /\ z0x Tryz.prog 37 = some 109 /\ z3n Tryz.prog 37 = none /\ z3q Tryz.prog 37 = none /\ z3m Tryz.prog 37 = false /\ z1k Tryz.prog 37 = false /\ z3i Tryz.prog 37 = none /\ z02 Tryz.prog 37 = 1 /\ z0k Tryz.prog 37 = 24 /\ z17 Tryz.prog 37 = some [D.nil] /\ z0g Tryz.prog 37 = true := by refine ⟨?_, ?_, ?_, ?_, ?_, ?_, ?_, ?_, ?_, ?_, ?_, ?_⟩ <;> kernel_rfl
@[go_sem] theorem ty38 : z04 Tryz.prog 38 = false /\ z0n Tryz.prog 38 = true /\ z0x Tryz.prog 38 = some 9 /\ z3n Tryz.prog 38 = none /\ z3q Tryz.prog 38 = none /\ z3m Tryz.prog 38 = false /\ z1k Tryz.prog 38 = false /\ z3i Tryz.prog 38 = none /\ z02 Tryz.prog 38 = 1 /\ z0k Tryz.prog 38 = 24 /\ z17 Tryz.prog 38 = some [D.nil] /\ z0g Tryz.prog 38 = true := by refine ⟨?_, ?_, ?_, ?_, ?_, ?_, ?_, ?_, ?_, ?_, ?_, ?_⟩ <;> kernel_rfl
@[go_sem] theorem ty40 : z04 Tryz.prog 40 = true /\ z0n Tryz.prog 40 = false /\ z0x Tryz.prog 40 = none /\ z3n Tryz.prog 40 = none /\ z3q Tryz.prog 40 = none /\ z3m Tryz.prog 40 = false /\ z1k Tryz.prog 40 = false /\ z3i Tryz.prog 40 = none /\ z02 Tryz.prog 40 = 3 /\ z0k Tryz.prog 40 = 32 /\ z17 Tryz.prog 40 = some [D.int .i64 0, D.int .i64 0, D.str ByteArray.empty] /\ z0g Tryz.prog 40 = true := by refine ⟨?_, ?_, ?_, ?_, ?_, ?_, ?_, ?_, ?_, ?_, ?_, ?_⟩ <;> kernel_rfl
@[go_sem] theorem fieldsOK40 : z2n Tryz.prog 40 = true := by kernel_rfl
@[go_sem] theorem fieldT40_0 : z0y Tryz.prog 40 0 = some (0, 3) := by kernel_rfl
@[go_sem] theorem fieldT40_1 : z0y Tryz.prog 40 1 = some (1, 3) := by kernel_rfl
@[go_sem] theorem fieldT40_2 : z0y Tryz.prog 40 2 = some (2, 9) := by kernel_rfl
@[go_sem] theorem ty41 : z04 Tryz.prog 41 = false /\ z0n Tryz.prog 41 = true /\ z0x Tryz.prog 41 = some 43 /\ z3n Tryz.prog 41 = none /\ z3q Tryz.prog 41 = none /\ z3m Tryz.prog 41 = false /\ z1k Tryz.prog 41 = false /\ z3i Tryz.prog 41 = none /\ z02 Tryz.prog 41 = 1 /\ z0k Tryz.prog 41 = 24 /\ z17 Tryz.prog 41 = some [D.nil] /\ z0g Tryz.prog 41 = true := by refine ⟨?_, ?_, ?_, ?_, ?_, ?_, ?_, ?_, ?_, ?_, ?_, ?_⟩ <;> kernel_rfl
@[go_sem] theorem ty43 : z04 Tryz.prog 43 = true /\ z0n Tryz.prog 43 = false /\ z0x Tryz.prog 43 = none /\ z3n Tryz.prog 43 = none /\ z3q Tryz.prog 43 = none /\ z3m Tryz.prog 43 = false /\ z1k Tryz.prog 43 = false /\ z3i Tryz.prog 43 = none /\ z02 Tryz.prog 43 = 25 /\ z0k Tryz.prog 43 = 368 /\ z0g Tryz.prog 43 = true := by refine ⟨?_, ?_, ?_, ?_, ?_, ?_, ?_, ?_, ?_, ?_, ?_⟩ <;> kernel_rfl
theorem zxv : z04 Tryz.prog 43 = true := ty43.1
theorem sizeT43 : z02 Tryz.prog 43 = 25 := ty43.2.2.2.2.2.2.2.2.1
@[go_sem] theorem fieldsOK43 : z2n Tryz.prog 43 = true := by kernel_rfl
@[go_sem] theorem fieldT43_0 : z0y Tryz.prog 43 0 = some (0, 3) := by kernel_rfl
@[go_sem] theorem fieldT43_1 : z0y Tryz.prog 43 1 = some (1, 37) := by kernel_rfl
@[go_sem] theorem fieldT43_2 : z0y Tryz.prog 43 2 = some (2, 37) := by kernel_rfl
@[go_sem] theorem fieldT43_3 : z0y Tryz.prog 43 3 = some (3, 3) := by kernel_rfl
@[go_sem] theorem fieldT43_4 : z0y Tryz.prog 43 4 = some (4, 3) := by kernel_rfl
@[go_sem] theorem fieldT43_5 : z0y Tryz.prog 43 5 = some (5, 27) := by kernel_rfl
@[go_sem] theorem fieldT43_6 : z0y Tryz.prog 43 6 = some (13, 38) := by kernel_rfl
@[go_sem] theorem fieldT43_7 : z0y Tryz.prog 43 7 = some (14, 38) := by kernel_rfl
@[go_sem] theorem fieldT43_8 : z0y Tryz.prog 43 8 = some (15, 9) := by kernel_rfl
@[go_sem] theorem fieldT43_9 : z0y Tryz.prog 43 9 = some (16, 9) := by kernel_rfl
@[go_sem] theorem fieldT43_10 : z0y Tryz.prog 43 10 = some (17, 40) := by kernel_rfl
@[go_sem] theorem fieldT43_11 : z0y Tryz.prog 43 11 = some (20, 3) := by kernel_rfl
@[go_sem] theorem fieldT43_12 : z0y Tryz.prog 43 12 = some (21, 3) := by kernel_rfl
@[go_sem] theorem fieldT43_13 : z0y Tryz.prog 43 13 = some (22, 3) := by kernel_rfl
@[go_sem] theorem fieldT43_14 : z0y Tryz.prog 43 14 = some (23, 9) := by kernel_rfl
@[go_sem] theorem fieldT43_15 : z0y Tryz.prog 43 15 = some (24, 41) := by kernel_rfl
@[go_sem] theorem ty45 : z04 Tryz.prog 45 = true /\ z0n Tryz.prog 45 = false /\ z0x Tryz.prog 45 = none /\ z3n Tryz.prog 45 = none /\ z3q Tryz.prog 45 = none /\ z3m Tryz.prog 45 = false /\ z1k Tryz.prog 45 = false /\ z3i Tryz.prog 45 = none /\ z02 Tryz.prog 45 = 28 /\ z0k Tryz.prog 45 = 392 /\ z0g Tryz.prog 45 = true := by refine ⟨?_, ?_, ?_, ?_, ?_, ?_, ?_, ?_, ?_, ?_, ?_⟩ <;> kernel_rfl
@[go_sem] theorem fieldsOK45 : z2n Tryz.prog 45 = true := by kernel_rfl
@[go_sem] theorem fieldT45_0 : z0y Tryz.prog 45 0 = some (0, 3) := by kernel_rfl
@[go_sem] theorem fieldT45_1 : z0y Tryz.prog 45 1 = some (1, 3) := by kernel_rfl
@[go_sem] theorem fieldT45_2 : z0y Tryz.prog 45 2 = some (2, 3) := by kernel_rfl
@[go_sem] theorem fieldT45_3 : z0y Tryz.prog 45 3 = some (3, 43) := by kernel_rfl
@[go_sem] theorem ty47 : z04 Tryz.prog 47 = false /\ z0n Tryz.prog 47 = true /\ z0x Tryz.prog 47 = none /\ z3n Tryz.prog 47 = none /\ z3q Tryz.prog 47 = none /\ z3m Tryz.prog 47 = false /\ z1k Tryz.prog 47 = false /\ z3i Tryz.prog 47 = none /\ z02 Tryz.prog 47 = 1 /\ z0k Tryz.prog 47 = 8 /\ z17 Tryz.prog 47 = some [D.nfun] /\ z0g Tryz.prog 47 = true := by refine ⟨?_, ?_, ?_, ?_, ?_, ?_, ?_, ?_, ?_, ?_, ?_, ?_⟩ <;> kernel_rfl
@[go_sem] theorem ty48 : z04 Tryz.prog 48 = false /\ z0n Tryz.prog 48 = true /\ z0x Tryz.prog 48 = none /\ z3n Tryz.prog 48 = none /\ z3q Tryz.prog 48 = none /\ z3m Tryz.prog 48 = false /\ z1k Tryz.prog 48 = false /\ z3i Tryz.prog 48 = none /\ z02 Tryz.prog 48 = 1 /\ z0k Tryz.prog 48 = 8 /\ z17 Tryz.prog 48 = some [D.nfun] /\ z0g Tryz.prog 48 = true := by refine ⟨?_, ?_, ?_, ?_, ?_, ?_, ?_, ?_, ?_, ?_, ?_, ?_⟩ <;> kernel_rfl
@[go_sem] theorem ty49 : z04 Tryz.prog 49 = false /\ z0n Tryz.prog 49 = true /\ z0x Tryz.prog 49 = none /\ z3n Tryz.prog 49 = none /\ z3q Tryz.prog 49 = none /\ z3m Tryz.prog 49 = false /\ z1k Tryz.prog 49 = false /\ z3i Tryz.prog 49 = none /\ z02 Tryz.prog 49 = 1 /\ z0k Tryz.prog 49 = 8 /\ z17 Tryz.prog 49 = some [D.nfun] /\ z0g Tryz.prog 49 = true := by refine ⟨?_, ?_, ?_, ?_, ?_, ?_, ?_, ?_, ?_, ?_, ?_, ?_⟩ <;> kernel_rfl
@[go_sem] theorem ty50 : z04 Tryz.prog 50 = false /\ z0n Tryz.prog 50 = true /\ z0x Tryz.prog 50 = none /\ z3n Tryz.prog 50 = none /\ z3q Tryz.prog 50 = none /\ z3m Tryz.prog 50 = false /\ z1k Tryz.prog 50 = false /\ z3i Tryz.prog 50 = none /\ z02 Tryz.prog 50 = 1 /\ z0k Tryz.prog 50 = 8 /\ z17 Tryz.prog 50 = some [D.nfun] /\ z0g Tryz.prog 50 = true := by refine ⟨?_, ?_, ?_, ?_, ?_, ?_, ?_, ?_, ?_, ?_, ?_, ?_⟩ <;> kernel_rfl
@[go_sem] theorem ty59 : z04 Tryz.prog 59 = false /\ z0n Tryz.prog 59 = true /\ z0x Tryz.prog 59 = some 23 /\ z3n Tryz.prog 59 = none /\ z3q Tryz.prog 59 = none /\ z3m Tryz.prog 59 = false /\ z1k Tryz.prog 59 = false /\ z3i Tryz.prog 59 = none /\ z02 Tryz.prog 59 = 1 /\ z0k Tryz.prog 59 = 24 /\ z17 Tryz.prog 59 = some [D.nil] /\ z0g Tryz.prog 59 = true := by refine ⟨?_, ?_, ?_, ?_, ?_, ?_, ?_, ?_, ?_, ?_, ?_, ?_⟩ <;> kernel_rfl
@[go_sem] theorem ty66 : z04 Tryz.prog 66 = false /\ z0n Tryz.prog 66 = true /\ z0x Tryz.prog 66 = none /\ z3n Tryz.prog 66 = none /\ z3q Tryz.prog 66 = none /\ z3m Tryz.prog 66 = false /\ z1k Tryz.prog 66 = false /\ z3i Tryz.prog 66 = none /\ z02 Tryz.prog 66 = 1 /\ z0k Tryz.prog 66 = 8 /\ z17 Tryz.prog 66 = some [D.nfun] /\ z0g Tryz.prog 66 = true := by refine ⟨?_, ?_, ?_, ?_, ?_, ?_, ?_, ?_, ?_, ?_, ?_, ?_⟩ <;> kernel_rfl
@[go_sem] theorem ty67 : z04 Tryz.prog 67 = false /\ z0n Tryz.prog 67 = true /\ z0x Tryz.prog 67 = none /\ z3n Tryz.prog 67 = none /\ z3q Tryz.prog 67 = none /\ z3m Tryz.prog 67 = false /\ z1k Tryz.prog 67 = false /\ z3i Tryz.prog 67 = none /\ z02 Tryz.prog 67 = 1 /\ z0k Tryz.prog 67 = 8 /\ z17 Tryz.prog 67 = some [D.nfun] /\ z0g Tryz.prog 67 = true := by refine ⟨?_, ?_, ?_, ?_, ?_, ?_, ?_, ?_, ?_, ?_, ?_, ?_⟩ <;> kernel_rfl
@[go_sem] theorem ty70 : z04 Tryz.prog 70 = false /\ z0n Tryz.prog 70 = true /\ z0x Tryz.prog 70 = none /\ z3n Tryz.prog 70 = none /\ z3q Tryz.prog 70 = none /\ z3m Tryz.prog 70 = false /\ z1k Tryz.prog 70 = false /\ z3i Tryz.prog 70 = none /\ z02 Tryz.prog 70 = 1 /\ z0k Tryz.prog 70 = 8 /\ z17 Tryz.prog 70 = some [D.nptr] /\ z0g Tryz.prog 70 = true := by refine ⟨?_, ?_, ?_, ?_, ?_, ?_, ?_, ?_, ?_, ?_, ?_, ?_⟩ <;> kernel_rfl
@[go_sem] theorem ptrT70 : zrh Tryz.prog 70 = true := by kernel_rfl
@[go_sem] theorem ty97 : z04 Tryz.prog 97 = false /\ z0n Tryz.prog 97 = true /\ z0x Tryz.prog 97 = none /\ z3n Tryz.prog 97 = none /\ z3q Tryz.prog 97 = none /\ z3m Tryz.prog 97 = false /\ z1k Tryz.prog 97 = false /\ z3i Tryz.prog 97 = none /\ z02 Tryz.prog 97 = 1 /\ z0k Tryz.prog 97 = 8 /\ z17 Tryz.prog 97 = some [D.nfun] /\ z0g Tryz.prog 97 = true := by refine ⟨?_, ?_, ?_, ?_, ?_, ?_, ?_, ?_, ?_, ?_, ?_, ?_⟩ <;> kernel_rfl
@[go_sem] theorem ty99 : z04 Tryz.prog 99 = false /\ z0n Tryz.prog 99 = true /\ z0x Tryz.prog 99 = none /\ z3n Tryz.prog 99 = none /\ z3q Tryz.prog 99 = none /\ z3m Tryz.prog 99 = false /\ z1k Tryz.prog 99 = false /\ z3i Tryz.prog 99 = none /\ z02 Tryz.prog 99 = 1 /\ z0k Tryz.prog 99 = 8 /\ z17 Tryz.prog 99 = some [D.nfun] /\ z0g Tryz.prog 99 = true := by refine ⟨?_, ?_, ?_, ?_, ?_, ?_, ?_, ?_, ?_, ?_, ?_, ?_⟩ <;> kernel_rfl
@[go_sem] theorem ty100 : z04 Tryz.prog 100 = false /\ z0n Tryz.prog 100 = true /\ z0x Tryz.prog 100 = none /\ z3n Tryz.prog 100 = none /\ z3q Tryz.prog 100 = none /\ z3m Tryz.prog 100 = false /\ z1k Tryz.prog 100 = false /\ z3i Tryz.prog 100 = none /\ z02 Tryz.prog 100 = 1 /\ z0k Tryz.prog 100 = 8 /\ z17 Tryz.prog 100 = some [D.nfun] /\ z0g Tryz.prog 100 = true := by refine ⟨?_, ?_, ?_, ?_, ?_, ?_, ?_, ?_, ?_, ?_, ?_, ?_⟩ <;> kernel_rfl
@[go_sem] theorem ty101 : z04 Tryz.prog 101 = false /\ z0n Tryz.prog 101 = true /\ z0x Tryz.prog 101 = none /\ z3n Tryz.prog 101 = none /\ z3q Tryz.prog 101 = none /\ z3m Tryz.prog 101 = false /\ z1k Tryz.prog 101 = false /\ z3i Tryz.prog 101 = none /\ z02 Tryz.prog 101 = 1 /\ z0k Tryz.prog 101 = 8 /\ z17 Tryz.prog 101 = some [D.nfun] /\ z0g Tryz.prog 101 = true := by refine ⟨?_, ?_, ?_, ?_, ?_, ?_, ?_, ?_, ?_, ?_, ?_, ?_⟩ <;> kernel_rfl
@[go_sem] theorem ty102 : z04 Tryz.prog 102 = false /\ z0n Tryz.prog 102 = true /\ z0x Tryz.prog 102 = none /\ z3n Tryz.prog 102 = none /\ z3q Tryz.prog 102 = none /\ z3m Tryz.prog 102 = false /\ z1k Tryz.prog 102 = false /\ z3i Tryz.prog 102 = none /\ z02 Tryz.prog 102 = 1 /\ z0k Tryz.prog 102 = 8 /\ z17 Tryz.prog 102 = some [D.nfun] /\ z0g Tryz.prog 102 = true := by refine ⟨?_, ?_, ?_, ?_, ?_, ?_, ?_, ?_, ?_, ?_, ?_, ?_⟩ <;> kernel_rfl
@[go_sem] theorem ty104 : z04 Tryz.prog 104 = false /\ z0n Tryz.prog 104 = true /\ z0x Tryz.prog 104 = none /\ z3n Tryz.prog 104 = none /\ z3q Tryz.prog 104 = none /\ z3m Tryz.prog 104 = false /\ z1k Tryz.prog 104 = false /\ z3i Tryz.prog 104 = some (3, 102) /\ z02 Tryz.prog 104 = 1 /\ z0k Tryz.prog 104 = 8 /\ z17 Tryz.prog 104 = some [D.nmp] /\ z0g Tryz.prog 104 = true := by refine ⟨?_, ?_, ?_, ?_, ?_, ?_, ?_, ?_, ?_, ?_, ?_, ?_⟩ <;> kernel_rfl
@[go_sem] theorem ty109 : z04 Tryz.prog 109 = true /\ z0n Tryz.prog 109 = false /\ z0x Tryz.prog 109 = none /\ z3n Tryz.prog 109 = none /\ z3q Tryz.prog 109 = none /\ z3m Tryz.prog 109 = false /\ z1k Tryz.prog 109 = false /\ z3i Tryz.prog 109 = none /\ z02 Tryz.prog 109 = 2 /\ z0k Tryz.prog 109 = 24 /\ z17 Tryz.prog 109 = some [D.int .i64 0, D.str ByteArray.empty] /\ z0g Tryz.prog 109 = true := by refine ⟨?_, ?_, ?_, ?_, ?_, ?_, ?_, ?_, ?_, ?_, ?_, ?_⟩ <;> kernel_rfl
theorem zem : z04 Tryz.prog 109 = true := ty109.1
theorem zhk : z02 Tryz.prog 109 = 2 := ty109.2.2.2.2.2.2.2.2.1
@[go_sem] theorem fieldsOK109 : z2n Tryz.prog 109 = true := by kernel_rfl
@[go_sem] theorem fieldT109_0 : z0y Tryz.prog 109 0 = some (0, 3) := by kernel_rfl
@[go_sem] theorem fieldT109_1 : z0y Tryz.prog 109 1 = some (1, 9) := by kernel_rfl
@[go_sem] theorem ty110 : z04 Tryz.prog 110 = false /\ z0n Tryz.prog 110 = true /\ z0x Tryz.prog 110 = none /\ z3n Tryz.prog 110 = none /\ z3q Tryz.prog 110 = none /\ z3m Tryz.prog 110 = false /\ z1k Tryz.prog 110 = false /\ z3i Tryz.prog 110 = none /\ z02 Tryz.prog 110 = 1 /\ z0k Tryz.prog 110 = 8 /\ z17 Tryz.prog 110 = some [D.nfun] /\ z0g Tryz.prog 110 = true := by refine ⟨?_, ?_, ?_, ?_, ?_, ?_, ?_, ?_, ?_, ?_, ?_, ?_⟩ <;> kernel_rfl
@[go_sem] theorem ty111 : z04 Tryz.prog 111 = false /\ z0n Tryz.prog 111 = true /\ z0x Tryz.prog 111 = none /\ z3n Tryz.prog 111 = none /\ z3q Tryz.prog 111 = none /\ z3m Tryz.prog 111 = false /\ z1k Tryz.prog 111 = false /\ z3i Tryz.prog 111 = none /\ z02 Tryz.prog 111 = 1 /\ z0k Tryz.prog 111 = 8 /\ z17 Tryz.prog 111 = some [D.nfun] /\ z0g Tryz.prog 111 = true := by refine ⟨?_, ?_, ?_, ?_, ?_, ?_, ?_, ?_, ?_, ?_, ?_, ?_⟩ <;> kernel_rfl
@[go_sem] theorem ty112 : z04 Tryz.prog 112 = false /\ z0n Tryz.prog 112 = true /\ z0x Tryz.prog 112 = none /\ z3n Tryz.prog 112 = none /\ z3q Tryz.prog 112 = none /\ z3m Tryz.prog 112 = false /\ z1k Tryz.prog 112 = false /\ z3i Tryz.prog 112 = none /\ z02 Tryz.prog 112 = 1 /\ z0k Tryz.prog 112 = 8 /\ z17 Tryz.prog 112 = some [D.nfun] /\ z0g Tryz.prog 112 = true := by refine ⟨?_, ?_, ?_, ?_, ?_, ?_, ?_, ?_, ?_, ?_, ?_, ?_⟩ <;> kernel_rfl
@[go_sem] theorem ty114 : z04 Tryz.prog 114 = false /\ z0n Tryz.prog 114 = true /\ z0x Tryz.prog 114 = none /\ z3n Tryz.prog 114 = none /\ z3q Tryz.prog 114 = none /\ z3m Tryz.prog 114 = false /\ z1k Tryz.prog 114 = false /\ z3i Tryz.prog 114 = none /\ z02 Tryz.prog 114 = 1 /\ z0k Tryz.prog 114 = 8 /\ z17 Tryz.prog 114 = some [D.nfun] /\ z0g Tryz.prog 114 = true := by refine ⟨?_, ?_, ?_, ?_, ?_, ?_, ?_, ?_, ?_, ?_, ?_, ?_⟩ <;> kernel_rfl
@[go_sem] theorem ty115 : z04 Tryz.prog 115 = false /\ z0n Tryz.prog 115 = true /\ z0x Tryz.prog 115 = some 70 /\ z3n Tryz.prog 115 = none /\ z3q Tryz.prog 115 = none /\ z3m Tryz.prog 115 = false /\ z1k Tryz.prog 115 = false /\ z3i Tryz.prog 115 = none /\ z02 Tryz.prog 115 = 1 /\ z0k Tryz.prog 115 = 24 /\ z17 Tryz.prog 115 = some [D.nil] /\ z0g Tryz.prog 115 = true := by refine ⟨?_, ?_, ?_, ?_, ?_, ?_, ?_, ?_, ?_, ?_, ?_, ?_⟩ <;> kernel_rfl
@[go_sem] theorem ty116 : z04 Tryz.prog 116 = true /\ z0n Tryz.prog 116 = false /\ z0x Tryz.prog 116 = none /\ z3n Tryz.prog 116 = none /\ z3q Tryz.prog 116 = none /\ z3m Tryz.prog 116 = false /\ z1k Tryz.prog 116 = false /\ z3i Tryz.prog 116 = none /\ z02 Tryz.prog 116 = 9 /\ z0k Tryz.prog 116 = 144 /\ z17 Tryz.prog 116 = some [D.int .i64 0, D.int .i64 0, D.int .i64 0, D.int .i64 0, D.str ByteArray.empty, D.nil, D.nil, D.nil, D.nil] /\ z0g Tryz.prog 116 = true := by refine ⟨?_, ?_, ?_, ?_, ?_, ?_, ?_, ?_, ?_, ?_, ?_, ?_⟩ <;> kernel_rfl
@[go_sem] theorem fieldsOK116 : z2n Tryz.prog 116 = true := by kernel_rfl
@[go_sem] theorem fieldT116_0 : z0y Tryz.prog 116 0 = some (0, 27) := by kernel_rfl
@[go_sem] theorem fieldT116_1 : z0y Tryz.prog 116 1 = some (8, 115) := by kernel_rfl
@[go_sem] theorem ty120 : z04 Tryz.prog 120 = true /\ z0n Tryz.prog 120 = false /\ z0x Tryz.prog 120 = none /\ z3n Tryz.prog 120 = none /\ z3q Tryz.prog 120 = none /\ z3m Tryz.prog 120 = false /\ z1k Tryz.prog 120 = false /\ z3i Tryz.prog 120 = none /\ z02 Tryz.prog 120 = 3 /\ z0k Tryz.prog 120 = 24 /\ z17 Tryz.prog 120 = some [D.int .i64 0, D.int .i64 0, D.int .i64 0] /\ z0g Tryz.prog 120 = true := by refine ⟨?_, ?_, ?_, ?_, ?_, ?_, ?_, ?_, ?_, ?_, ?_, ?_⟩ <;> kernel_rfl
theorem zjt : z04 Tryz.prog 120 = true := ty120.1
theorem zju : z0n Tryz.prog 120 = false := ty120.2.1
theorem znn : z02 Tryz.prog 120 = 3 := ty120.2.2.2.2.2.2.2.2.1
@[go_sem] theorem fieldsOK120 : z2n Tryz.prog 120 = true := by kernel_rfl
@[go_sem] theorem fieldT120_0 : z0y Tryz.prog 120 0 = some (0, 3) := by kernel_rfl
@[go_sem] theorem fieldT120_1 : z0y Tryz.prog 120 1 = some (1, 3) := by kernel_rfl
@[go_sem] theorem fieldT120_2 : z0y Tryz.prog 120 2 = some (2, 3) := by kernel_rfl
@[go_sem] theorem ty121 : z04 Tryz.prog 121 = true /\ z0n Tryz.prog 121 = false /\ z0x Tryz.prog 121 = none /\ z3n Tryz.prog 121 = none /\ z3q Tryz.prog 121 = none /\ z3m Tryz.prog 121 = false /\ z1k Tryz.prog 121 = false /\ z3i Tryz.prog 121 = none /\ z02 Tryz.prog 121 = 4 /\ z0k Tryz.prog 121 = 40 /\ z17 Tryz.prog 121 = some [D.str ByteArray.empty, D.int .i64 0, D.int .i64 0, D.int .i64 0] /\ z0g Tryz.prog 121 = true := by refine ⟨?_, ?_, ?_, ?_, ?_, ?_, ?_, ?_, ?_, ?_, ?_, ?_⟩ <;> kernel_rfl
@[go_sem] theorem fieldsOK121 : z2n Tryz.prog 121 = true := by kernel_rfl
@[go_sem] theorem fieldT121_0 : z0y Tryz.prog 121 0 = some (0, 9) := by kernel_rfl
@[go_sem] theorem fieldT121_1 : z0y Tryz.prog 121 1 = some (1, 120) := by kernel_rfl
@[go_sem] theorem ty122 : z04 Tryz.prog 122 = true /\ z0n Tryz.prog 122 = false /\ z0x Tryz.prog 122 = none /\ z3n Tryz.prog 122 = none /\ z3q Tryz.prog 122 = none /\ z3m Tryz.prog 122 = false /\ z1k Tryz.prog 122 = false /\ z3i Tryz.prog 122 = none /\ z02 Tryz.prog 122 = 4 /\ z0k Tryz.prog 122 = 40 /\ z17 Tryz.prog 122 = some [D.str ByteArray.empty, D.int .i64 0, D.int .i64 0, D.int .i64 0] /\ z0g Tryz.prog 122 = true := by refine ⟨?_, ?_, ?_, ?_, ?_, ?_, ?_, ?_, ?_, ?_, ?_, ?_⟩ <;> kernel_rfl
theorem zjv : z04 Tryz.prog 122 = true := ty122.1
theorem zno : z02 Tryz.prog 122 = 4 := ty122.2.2.2.2.2.2.2.2.1
@[go_sem] theorem fieldsOK122 : z2n Tryz.prog 122 = true := by kernel_rfl
@[go_sem] theorem fieldT122_0 : z0y Tryz.prog 122 0 = some (0, 9) := by kernel_rfl
@[go_sem] theorem fieldT122_1 : z0y Tryz.prog 122 1 = some (1, 120) := by kernel_rfl
@[go_sem] theorem ty124 : z04 Tryz.prog 124 = false /\ z0n Tryz.prog 124 = true /\ z0x Tryz.prog 124 = none /\ z3n Tryz.prog 124 = none /\ z3q Tryz.prog 124 = none /\ z3m Tryz.prog 124 = false /\ z1k Tryz.prog 124 = false /\ z3i Tryz.prog 124 = none /\ z02 Tryz.prog 124 = 1 /\ z0k Tryz.prog 124 = 8 /\ z17 Tryz.prog 124 = some [D.nfun] /\ z0g Tryz.prog 124 = true := by refine ⟨?_, ?_, ?_, ?_, ?_, ?_, ?_, ?_, ?_, ?_, ?_, ?_⟩ <;> kernel_rfl
@[go_sem] theorem ty125 : z04 Tryz.prog 125 = false /\ z0n Tryz.prog 125 = true /\ z0x Tryz.prog 125 = none /\ z3n Tryz.prog 125 = none /\ z3q Tryz.prog 125 = none /\ z3m Tryz.prog 125 = false /\ z1k Tryz.prog 125 = false /\ z3i Tryz.prog 125 = none /\ z02 Tryz.prog 125 = 1 /\ z0k Tryz.prog 125 = 8 /\ z17 Tryz.prog 125 = some [D.nfun] /\ z0g Tryz.prog 125 = true := by refine ⟨?_, ?_, ?_, ?_, ?_, ?_, ?_, ?_, ?_, ?_, ?_, ?_⟩ <;> kernel_rfl
@[go_sem] theorem ty137 : z04 Tryz.prog 137 = false /\ z0n Tryz.prog 137 = true /\ z0x Tryz.prog 137 = some 3 /\ z3n Tryz.prog 137 = none /\ z3q Tryz.prog 137 = none /\ z3m Tryz.prog 137 = false /\ z1k Tryz.prog 137 = false /\ z3i Tryz.prog 137 = none /\ z02 Tryz.prog 137 = 1 /\ z0k Tryz.prog 137 = 24 /\ z17 Tryz.prog 137 = some [D.nil] /\ z0g Tryz.prog 137 = true := by refine ⟨?_, ?_, ?_, ?_, ?_, ?_, ?_, ?_, ?_, ?_, ?_, ?_⟩ <;> kernel_rfl
@[go_sem] theorem ty160 : z04 Tryz.prog 160 = true /\ z0n Tryz.prog 160 = false /\ z0x Tryz.prog 160 = none /\ z3n Tryz.prog 160 = none /\ z3q Tryz.prog 160 = none /\ z3m Tryz.prog 160 = false /\ z1k Tryz.prog 160 = false /\ z3i Tryz.prog 160 = none /\ z02 Tryz.prog 160 = 2 /\ z0k Tryz.prog 160 = 16 /\ z17 Tryz.prog 160 = some [D.nfun, D.nfun] /\ z0g Tryz.prog 160 = true := by refine ⟨?_, ?_, ?_, ?_, ?_, ?_, ?_, ?_, ?_, ?_, ?_, ?_⟩ <;> kernel_rfl
@[go_sem] theorem fieldsOK160 : z2n Tryz.prog 160 = true := by kernel_rfl
@[go_sem] theorem fieldT160_0 : z0y Tryz.prog 160 0 = some (0, 125) := by kernel_rfl
@[go_sem] theorem fieldT160_1 : z0y Tryz.prog 160 1 = some (1, 67) := by kernel_rfl
@[go_sem] theorem ty162 : z04 Tryz.prog 162 = false /\ z0n Tryz.prog 162 = true /\ z0x Tryz.prog 162 = none /\ z3n Tryz.prog 162 = none /\ z3q Tryz.prog 162 = none /\ z3m Tryz.prog 162 = false /\ z1k Tryz.prog 162 = false /\ z3i Tryz.prog 162 = some (3, 160) /\ z02 Tryz.prog 162 = 1 /\ z0k Tryz.prog 162 = 8 /\ z17 Tryz.prog 162 = some [D.nmp] /\ z0g Tryz.prog 162 = true := by refine ⟨?_, ?_, ?_, ?_, ?_, ?_, ?_, ?_, ?_, ?_, ?_, ?_⟩ <;> kernel_rfl
@[go_sem] theorem ty168 : z04 Tryz.prog 168 = false /\ z0n Tryz.prog 168 = true /\ z0x Tryz.prog 168 = none /\ z3n Tryz.prog 168 = none /\ z3q Tryz.prog 168 = none /\ z3m Tryz.prog 168 = false /\ z1k Tryz.prog 168 = false /\ z3i Tryz.prog 168 = none /\ z02 Tryz.prog 168 = 1 /\ z0k Tryz.prog 168 = 8 /\ z17 Tryz.prog 168 = some [D.nfun] /\ z0g Tryz.prog 168 = true := by refine ⟨?_, ?_, ?_, ?_, ?_, ?_, ?_, ?_, ?_, ?_, ?_, ?_⟩ <;> kernel_rfl
@[go_sem] theorem under186 : Tryz.prog.underlying 186 = some (.array 4 185) := by kernel_rfl
@[go_sem] theorem ptrT195 : zrh Tryz.prog 195 = true := by kernel_rfl
@[go_sem] theorem ty205 : z04 Tryz.prog 205 = false /\ z0n Tryz.prog 205 = true /\ z0x Tryz.prog 205 = none /\ z3n Tryz.prog 205 = none /\ z3q Tryz.prog 205 = none /\ z3m Tryz.prog 205 = false /\ z1k Tryz.prog 205 = false /\ z3i Tryz.prog 205 = none /\ z02 Tryz.prog 205 = 1 /\ z0k Tryz.prog 205 = 8 /\ z17 Tryz.prog 205 = some [D.nptr] /\ z0g Tryz.prog 205 = true := by refine ⟨?_, ?_, ?_, ?_, ?_, ?_, ?_, ?_, ?_, ?_, ?_, ?_⟩ <;> kernel_rfl
@[go_sem] theorem ptrT205 : zrh Tryz.prog 205 = true := by kernel_rfl
@[go_sem] theorem ty207 : z04 Tryz.prog 207 = false /\ z0n Tryz.prog 207 = true /\ z0x Tryz.prog 207 = none /\ z3n Tryz.prog 207 = none /\ z3q Tryz.prog 207 = none /\ z3m Tryz.prog 207 = false /\ z1k Tryz.prog 207 = false /\ z3i Tryz.prog 207 = none /\ z02 Tryz.prog 207 = 1 /\ z0k Tryz.prog 207 = 8 /\ z17 Tryz.prog 207 = some [D.nfun] /\ z0g Tryz.prog 207 = true := by refine ⟨?_, ?_, ?_, ?_, ?_, ?_, ?_, ?_, ?_, ?_, ?_, ?_⟩ <;> kernel_rfl
@[go_sem] theorem ty214 : z04 Tryz.prog 214 = true /\ z0n Tryz.prog 214 = false /\ z0x Tryz.prog 214 = none /\ z3n Tryz.prog 214 = some (8, 137) /\ z3q Tryz.prog 214 = none /\ z3m Tryz.prog 214 = false /\ z1k Tryz.prog 214 = false /\ z3i Tryz.prog 214 = none /\ z02 Tryz.prog 214 = 8 /\ z0k Tryz.prog 214 = 192 /\ z17 Tryz.prog 214 = some [D.nil, D.nil, D.nil, D.nil, D.nil, D.nil, D.nil, D.nil] /\ z0g Tryz.prog 214 = true := by refine ⟨?_, ?_, ?_, ?_, ?_, ?_, ?_, ?_, ?_, ?_, ?_, ?_⟩ <;> kernel_rfl
@[go_sem] theorem under214 : Tryz.prog.underlying 214 = some (.array 8 137) := by kernel_rfl
@[go_sem] theorem ty229 : z04 Tryz.prog 229 = false /\ z0n Tryz.prog 229 = true /\ z0x Tryz.prog 229 = none /\ z3n Tryz.prog 229 = none /\ z3q Tryz.prog 229 = none /\ z3m Tryz.prog 229 = false /\ z1k Tryz.prog 229 = false /\ z3i Tryz.prog 229 = none /\ z02 Tryz.prog 229 = 1 /\ z0k Tryz.prog 229 = 8 /\ z17 Tryz.prog 229 = some [D.nfun] /\ z0g Tryz.prog 229 = true := by refine ⟨?_, ?_, ?_, ?_, ?_, ?_, ?_, ?_, ?_, ?_, ?_, ?_⟩ <;> kernel_rfl
@[go_sem] theorem under239 : Tryz.prog.underlying 239 = some (.array 256 4) := by kernel_rfl
@[go_sem] theorem ty240 : z04 Tryz.prog 240 = true /\ z0n Tryz.prog 240 = false /\ z0x Tryz.prog 240 = none /\ z3n Tryz.prog 240 = some (256, 4) /\ z3q Tryz.prog 240 = none /\ z3m Tryz.prog 240 = false /\ z1k Tryz.prog 240 = false /\ z3i Tryz.prog 240 = none /\ z02 Tryz.prog 240 = 256 /\ z0k Tryz.prog 240 = 256 := by refine ⟨?_, ?_, ?_, ?_, ?_, ?_, ?_, ?_, ?_, ?_⟩ <;> kernel_rfl
@[go_sem] theorem under240 : Tryz.prog.underlying 240 = some (.array 256 4) := by kernel_rfl
@[go_sem] theorem ty244 : z04 Tryz.prog 244 = false /\ z0n Tryz.prog 244 = true /\ z0x Tryz.prog 244 = none /\ z3n Tryz.prog 244 = none /\ z3q Tryz.prog 244 = none /\ z3m Tryz.prog 244 = false /\ z1k Tryz.prog 244 = false /\ z3i Tryz.prog 244 = none /\ z02 Tryz.prog 244 = 1 /\ z0k Tryz.prog 244 = 8 /\ z17 Tryz.prog 244 = some [D.nptr] /\ z0g Tryz.prog 244 = true := by refine ⟨?_, ?_, ?_, ?_, ?_, ?_, ?_, ?_, ?_, ?_, ?_, ?_⟩ <;> kernel_rfl
@[go_sem] theorem ptrT244 : zrh Tryz.prog 244 = true := by kernel_rfl
@[go_sem] theorem ty256 : z04 Tryz.prog 256 = false /\ z0n Tryz.prog 256 = true /\ z0x Tryz.prog 256 = none /\ z3n Tryz.prog 256 = none /\ z3q Tryz.prog 256 = none /\ z3m Tryz.prog 256 = false /\ z1k Tryz.prog 256 = false /\ z3i Tryz.prog 256 = none /\ z02 Tryz.prog 256 = 1 /\ z0k Tryz.prog 256 = 8 /\ z17 Tryz.prog 256 = some [D.nfun] /\ z0g Tryz.prog 256 = true := by refine ⟨?_, ?_, ?_, ?_, ?_, ?_, ?_, ?_, ?_, ?_, ?_, ?_⟩ <;> kernel_rfl
@[go_sem] theorem ptrT270 : zrh Tryz.prog 270 = true := by kernel_rfl
@[go_sem] theorem ty280 : z04 Tryz.prog 280 = true /\ z0n Tryz.prog 280 = false /\ z0x Tryz.prog 280 = none /\ z3n Tryz.prog 280 = some (8, 9) /\ z3q Tryz.prog 280 = none /\ z3m Tryz.prog 280 = false /\ z1k Tryz.prog 280 = false /\ z3i Tryz.prog 280 = none /\ z02 Tryz.prog 280 = 8 /\ z0k Tryz.prog 280 = 128 /\ z17 Tryz.prog 280 = some [D.str ByteArray.empty, D.str ByteArray.empty, D.str ByteArray.empty, D.str ByteArray.empty, D.str ByteArray.empty, D.str ByteArray.empty, D.str ByteArray.empty, D.str ByteArray.empty] /\ z0g Tryz.prog 280 = true := by refine ⟨?_, ?_, ?_, ?_, ?_, ?_, ?_, ?_, ?_, ?_, ?_, ?_⟩ <;> kernel_rfl
@[go_sem] theorem under280 : Tryz.prog.underlying 280 = some (.array 8 9) := by kernel_rfl
@[go_sem] theorem ptrT285 : zrh Tryz.prog 285 = true := by kernel_rfl
@[go_sem] theorem under286 : Tryz.prog.underlying 286 = some (.array 256 5) := by kernel_rfl
@[go_sem] theorem under290 : Tryz.prog.underlying 290 = some (.array 16 289) := by kernel_rfl
@[go_sem] theorem keyT70 : zri Tryz.prog 70 = false := by kernel_rfl
@[go_sem] theorem ptrK70 : zyx Tryz.prog 70 = true := by kernel_rfl
@[go_sem] theorem zeroD4 : zkx Tryz.prog 4 = some (D.bool false) := by kernel_rfl
@[go_sem] theorem keyT3 : zri Tryz.prog 3 = true := by kernel_rfl
@[go_sem] theorem zeroD102 : zkx Tryz.prog 102 = some (D.nfun) := by kernel_rfl
@[go_sem] theorem zeroD160 : zkx Tryz.prog 160 = some (.agg [D.nfun, D.nfun]) := by kernel_rfl
@[go_sem] theorem keyT260 : zri Tryz.prog 260 = true := by kernel_rfl
@[go_sem] theorem keyT23 : zri Tryz.prog 23 = true := by kernel_rfl
theorem z1w {P : Program} {d : Nat} {t : TypeId} {fs : Array Field} {xs ys : List D} (hu : P.underlying t = some (.struct fs)) (hs : P.stoodInHeld t = false) : eqD P (d + 1) t (.agg xs) (.agg ys) = z1a (eqD P d) P xs ys fs.toList := by
 simp only [eqD, hu, hs, if_true]
theorem z3v {P : Program} {d : Nat} {t : TypeId} {k : IntKind} {a b : Int} (hu : P.underlying t = some (.int k)) : eqD P (d + 1) t (.int k a) (.int k b) = some (decide (a = b)) := by
 simp only [eqD, hu, if_true, Option.some.injEq]; by_cases h : a = b <;> simp [h]
theorem z8p {P : Program} {d : Nat} {t : TypeId} {a b : ByteArray} (hu : P.underlying t = some .string) : eqD P (d + 1) t (.str a) (.str b) = some (decide (a = b)) := by
 simp only [eqD, hu]
theorem zxw : Tryz.prog.eqGuardType Tryz.prog.depth 22 = false := by kernel_rfl
theorem eqT22 (d : Nat) (a0 b0 : Int) (a1 b1 : Int) (a2 b2 : Int) : eqD Tryz.prog (d + 2) 22 (.agg [.int .i64 a0, .int .i64 a1, .int .i64 a2]) (.agg [.int .i64 b0, .int .i64 b1, .int .i64 b2]) = some (decide (a0 = b0) && decide (a1 = b1) && decide (a2 = b2)) := by
 rw [z1w Tryz.underlying22 (by kernel_rfl)]
 simp only [z1a, z3x, List.getElem?_cons_zero, List.getElem?_cons_succ, List.drop_succ_cons, List.drop_zero, List.take_succ_cons, List.take_zero, List.length_cons, List.length_nil, Nat.reduceAdd, Nat.reduceLeDiff, if_true, if_false, Bool.false_eq_true, ne_eq, String.reduceEq, not_false_eq_true, decide_eq_true_eq, z4f, z4g, z6g, z3v Tryz.underlying3]
 (repeat' split) <;> simp_all
@[go_sem] theorem eqU22 (a0 b0 : Int) (a1 b1 : Int) (a2 b2 : Int) : eqD Tryz.prog 8 22 (.agg [.int .i64 a0, .int .i64 a1, .int .i64 a2]) (.agg [.int .i64 b0, .int .i64 b1, .int .i64 b2]) = some (decide (a0 = b0) && decide (a1 = b1) && decide (a2 = b2)) := eqT22 6 a0 b0 a1 b1 a2 b2
attribute [go_sem] zxw
theorem zxx : Tryz.prog.eqGuardType Tryz.prog.depth 23 = false := by kernel_rfl
theorem eqT23 (d : Nat) (a0 b0 : Int) (a1 b1 : Int) (a2 b2 : Int) : eqD Tryz.prog (d + 2) 23 (.agg [.int .i64 a0, .int .i64 a1, .int .i64 a2]) (.agg [.int .i64 b0, .int .i64 b1, .int .i64 b2]) = some (decide (a0 = b0) && decide (a1 = b1) && decide (a2 = b2)) := by
 rw [z1w Tryz.underlying23 (by kernel_rfl)]
 simp only [z1a, z3x, List.getElem?_cons_zero, List.getElem?_cons_succ, List.drop_succ_cons, List.drop_zero, List.take_succ_cons, List.take_zero, List.length_cons, List.length_nil, Nat.reduceAdd, Nat.reduceLeDiff, if_true, if_false, Bool.false_eq_true, ne_eq, String.reduceEq, not_false_eq_true, decide_eq_true_eq, z4f, z4g, z6g, z3v Tryz.underlying3]
 (repeat' split) <;> simp_all
@[go_sem] theorem eqU23 (a0 b0 : Int) (a1 b1 : Int) (a2 b2 : Int) : eqD Tryz.prog 8 23 (.agg [.int .i64 a0, .int .i64 a1, .int .i64 a2]) (.agg [.int .i64 b0, .int .i64 b1, .int .i64 b2]) = some (decide (a0 = b0) && decide (a1 = b1) && decide (a2 = b2)) := eqT23 6 a0 b0 a1 b1 a2 b2
attribute [go_sem] zxx
theorem zxy : Tryz.prog.eqGuardType Tryz.prog.depth 39 = false := by kernel_rfl
theorem eqT39 (d : Nat) (a0 b0 : Int) (a1 b1 : Int) (a2 b2 : ByteArray) : eqD Tryz.prog (d + 2) 39 (.agg [.int .i64 a0, .int .i64 a1, .str a2]) (.agg [.int .i64 b0, .int .i64 b1, .str b2]) = some (decide (a0 = b0) && decide (a1 = b1) && decide (a2 = b2)) := by
 rw [z1w Tryz.underlying39 (by kernel_rfl)]
 simp only [z1a, z3x, List.getElem?_cons_zero, List.getElem?_cons_succ, List.drop_succ_cons, List.drop_zero, List.take_succ_cons, List.take_zero, List.length_cons, List.length_nil, Nat.reduceAdd, Nat.reduceLeDiff, if_true, if_false, Bool.false_eq_true, ne_eq, String.reduceEq, not_false_eq_true, decide_eq_true_eq, z4f, z4g, z6g, z3v Tryz.underlying3, z6o, z8o, z83, z8p Tryz.underlying9]
 (repeat' split) <;> simp_all
@[go_sem] theorem eqU39 (a0 b0 : Int) (a1 b1 : Int) (a2 b2 : ByteArray) : eqD Tryz.prog 8 39 (.agg [.int .i64 a0, .int .i64 a1, .str a2]) (.agg [.int .i64 b0, .int .i64 b1, .str b2]) = some (decide (a0 = b0) && decide (a1 = b1) && decide (a2 = b2)) := eqT39 6 a0 b0 a1 b1 a2 b2
attribute [go_sem] zxy
theorem zxz : Tryz.prog.eqGuardType Tryz.prog.depth 40 = false := by kernel_rfl
theorem eqT40 (d : Nat) (a0 b0 : Int) (a1 b1 : Int) (a2 b2 : ByteArray) : eqD Tryz.prog (d + 2) 40 (.agg [.int .i64 a0, .int .i64 a1, .str a2]) (.agg [.int .i64 b0, .int .i64 b1, .str b2]) = some (decide (a0 = b0) && decide (a1 = b1) && decide (a2 = b2)) := by
 rw [z1w Tryz.underlying40 (by kernel_rfl)]
 simp only [z1a, z3x, List.getElem?_cons_zero, List.getElem?_cons_succ, List.drop_succ_cons, List.drop_zero, List.take_succ_cons, List.take_zero, List.length_cons, List.length_nil, Nat.reduceAdd, Nat.reduceLeDiff, if_true, if_false, Bool.false_eq_true, ne_eq, String.reduceEq, not_false_eq_true, decide_eq_true_eq, z4f, z4g, z6g, z3v Tryz.underlying3, z6o, z8o, z83, z8p Tryz.underlying9]
 (repeat' split) <;> simp_all
@[go_sem] theorem eqU40 (a0 b0 : Int) (a1 b1 : Int) (a2 b2 : ByteArray) : eqD Tryz.prog 8 40 (.agg [.int .i64 a0, .int .i64 a1, .str a2]) (.agg [.int .i64 b0, .int .i64 b1, .str b2]) = some (decide (a0 = b0) && decide (a1 = b1) && decide (a2 = b2)) := eqT40 6 a0 b0 a1 b1 a2 b2
attribute [go_sem] zxz
theorem zue : Tryz.prog.eqGuardType Tryz.prog.depth 108 = false := by kernel_rfl
theorem eqT108 (d : Nat) (a0 b0 : Int) (a1 b1 : ByteArray) : eqD Tryz.prog (d + 2) 108 (.agg [.int .i64 a0, .str a1]) (.agg [.int .i64 b0, .str b1]) = some (decide (a0 = b0) && decide (a1 = b1)) := by
 rw [z1w Tryz.underlying108 (by kernel_rfl)]
 simp only [z1a, z3x, List.getElem?_cons_zero, List.getElem?_cons_succ, List.drop_succ_cons, List.drop_zero, List.take_succ_cons, List.take_zero, List.length_cons, List.length_nil, Nat.reduceAdd, Nat.reduceLeDiff, if_true, if_false, Bool.false_eq_true, ne_eq, String.reduceEq, not_false_eq_true, decide_eq_true_eq, z4f, z4g, z6g, z3v Tryz.underlying3, z6o, z8o, z83, z8p Tryz.underlying9]
 (repeat' split) <;> simp_all
@[go_sem] theorem eqU108 (a0 b0 : Int) (a1 b1 : ByteArray) : eqD Tryz.prog 8 108 (.agg [.int .i64 a0, .str a1]) (.agg [.int .i64 b0, .str b1]) = some (decide (a0 = b0) && decide (a1 = b1)) := eqT108 6 a0 b0 a1 b1
attribute [go_sem] zue
theorem zuf : Tryz.prog.eqGuardType Tryz.prog.depth 109 = false := by kernel_rfl
theorem eqT109 (d : Nat) (a0 b0 : Int) (a1 b1 : ByteArray) : eqD Tryz.prog (d + 2) 109 (.agg [.int .i64 a0, .str a1]) (.agg [.int .i64 b0, .str b1]) = some (decide (a0 = b0) && decide (a1 = b1)) := by
 rw [z1w Tryz.underlying109 (by kernel_rfl)]
 simp only [z1a, z3x, List.getElem?_cons_zero, List.getElem?_cons_succ, List.drop_succ_cons, List.drop_zero, List.take_succ_cons, List.take_zero, List.length_cons, List.length_nil, Nat.reduceAdd, Nat.reduceLeDiff, if_true, if_false, Bool.false_eq_true, ne_eq, String.reduceEq, not_false_eq_true, decide_eq_true_eq, z4f, z4g, z6g, z3v Tryz.underlying3, z6o, z8o, z83, z8p Tryz.underlying9]
 (repeat' split) <;> simp_all
@[go_sem] theorem eqU109 (a0 b0 : Int) (a1 b1 : ByteArray) : eqD Tryz.prog 8 109 (.agg [.int .i64 a0, .str a1]) (.agg [.int .i64 b0, .str b1]) = some (decide (a0 = b0) && decide (a1 = b1)) := eqT109 6 a0 b0 a1 b1
attribute [go_sem] zuf
theorem zug : Tryz.prog.eqGuardType Tryz.prog.depth 119 = false := by kernel_rfl
theorem eqT119 (d : Nat) (a0 b0 : Int) (a1 b1 : Int) (a2 b2 : Int) : eqD Tryz.prog (d + 2) 119 (.agg [.int .i64 a0, .int .i64 a1, .int .i64 a2]) (.agg [.int .i64 b0, .int .i64 b1, .int .i64 b2]) = some (decide (a0 = b0) && decide (a1 = b1) && decide (a2 = b2)) := by
 rw [z1w Tryz.underlying119 (by kernel_rfl)]
 simp only [z1a, z3x, List.getElem?_cons_zero, List.getElem?_cons_succ, List.drop_succ_cons, List.drop_zero, List.take_succ_cons, List.take_zero, List.length_cons, List.length_nil, Nat.reduceAdd, Nat.reduceLeDiff, if_true, if_false, Bool.false_eq_true, ne_eq, String.reduceEq, not_false_eq_true, decide_eq_true_eq, z4f, z4g, z6g, z3v Tryz.underlying3]
 (repeat' split) <;> simp_all
@[go_sem] theorem eqU119 (a0 b0 : Int) (a1 b1 : Int) (a2 b2 : Int) : eqD Tryz.prog 8 119 (.agg [.int .i64 a0, .int .i64 a1, .int .i64 a2]) (.agg [.int .i64 b0, .int .i64 b1, .int .i64 b2]) = some (decide (a0 = b0) && decide (a1 = b1) && decide (a2 = b2)) := eqT119 6 a0 b0 a1 b1 a2 b2
attribute [go_sem] zug
theorem zuh : Tryz.prog.eqGuardType Tryz.prog.depth 120 = false := by kernel_rfl
theorem zui (d : Nat) (a0 b0 : Int) (a1 b1 : Int) (a2 b2 : Int) : eqD Tryz.prog (d + 2) 120 (.agg [.int .i64 a0, .int .i64 a1, .int .i64 a2]) (.agg [.int .i64 b0, .int .i64 b1, .int .i64 b2]) = some (decide (a0 = b0) && decide (a1 = b1) && decide (a2 = b2)) := by
 rw [z1w Tryz.underlying120 (by kernel_rfl)]
 simp only [z1a, z3x, List.getElem?_cons_zero, List.getElem?_cons_succ, List.drop_succ_cons, List.drop_zero, List.take_succ_cons, List.take_zero, List.length_cons, List.length_nil, Nat.reduceAdd, Nat.reduceLeDiff, if_true, if_false, Bool.false_eq_true, ne_eq, String.reduceEq, not_false_eq_true, decide_eq_true_eq, z4f, z4g, z6g, z3v Tryz.underlying3]
 (repeat' split) <;> simp_all
@[go_sem] theorem eqU120 (a0 b0 : Int) (a1 b1 : Int) (a2 b2 : Int) : eqD Tryz.prog 8 120 (.agg [.int .i64 a0, .int .i64 a1, .int .i64 a2]) (.agg [.int .i64 b0, .int .i64 b1, .int .i64 b2]) = some (decide (a0 = b0) && decide (a1 = b1) && decide (a2 = b2)) := zui 6 a0 b0 a1 b1 a2 b2
attribute [go_sem] zuh
theorem zuj : Tryz.prog.eqGuardType Tryz.prog.depth 121 = false := by kernel_rfl
theorem eqT121 (d : Nat) (a0 b0 : ByteArray) (a1 b1 : Int) (a2 b2 : Int) (a3 b3 : Int) : eqD Tryz.prog (d + 3) 121 (.agg [.str a0, .int .i64 a1, .int .i64 a2, .int .i64 a3]) (.agg [.str b0, .int .i64 b1, .int .i64 b2, .int .i64 b3]) = some (decide (a0 = b0) && (decide (a1 = b1) && decide (a2 = b2) && decide (a3 = b3))) := by
 rw [z1w Tryz.underlying121 (by kernel_rfl)]
 simp only [z1a, z3x, List.getElem?_cons_zero, List.getElem?_cons_succ, List.drop_succ_cons, List.drop_zero, List.take_succ_cons, List.take_zero, List.length_cons, List.length_nil, Nat.reduceAdd, Nat.reduceLeDiff, if_true, if_false, Bool.false_eq_true, ne_eq, String.reduceEq, not_false_eq_true, decide_eq_true_eq, z6o, z8o, z83, z8p Tryz.underlying9, zjt, zju, znn, zui]
 (repeat' split) <;> simp_all
@[go_sem] theorem eqU121 (a0 b0 : ByteArray) (a1 b1 : Int) (a2 b2 : Int) (a3 b3 : Int) : eqD Tryz.prog 8 121 (.agg [.str a0, .int .i64 a1, .int .i64 a2, .int .i64 a3]) (.agg [.str b0, .int .i64 b1, .int .i64 b2, .int .i64 b3]) = some (decide (a0 = b0) && (decide (a1 = b1) && decide (a2 = b2) && decide (a3 = b3))) := eqT121 5 a0 b0 a1 b1 a2 b2 a3 b3
attribute [go_sem] zuj
theorem zuk : Tryz.prog.eqGuardType Tryz.prog.depth 122 = false := by kernel_rfl
theorem eqT122 (d : Nat) (a0 b0 : ByteArray) (a1 b1 : Int) (a2 b2 : Int) (a3 b3 : Int) : eqD Tryz.prog (d + 3) 122 (.agg [.str a0, .int .i64 a1, .int .i64 a2, .int .i64 a3]) (.agg [.str b0, .int .i64 b1, .int .i64 b2, .int .i64 b3]) = some (decide (a0 = b0) && (decide (a1 = b1) && decide (a2 = b2) && decide (a3 = b3))) := by
 rw [z1w Tryz.underlying122 (by kernel_rfl)]
 simp only [z1a, z3x, List.getElem?_cons_zero, List.getElem?_cons_succ, List.drop_succ_cons, List.drop_zero, List.take_succ_cons, List.take_zero, List.length_cons, List.length_nil, Nat.reduceAdd, Nat.reduceLeDiff, if_true, if_false, Bool.false_eq_true, ne_eq, String.reduceEq, not_false_eq_true, decide_eq_true_eq, z6o, z8o, z83, z8p Tryz.underlying9, zjt, zju, znn, zui]
 (repeat' split) <;> simp_all
@[go_sem] theorem eqU122 (a0 b0 : ByteArray) (a1 b1 : Int) (a2 b2 : Int) (a3 b3 : Int) : eqD Tryz.prog 8 122 (.agg [.str a0, .int .i64 a1, .int .i64 a2, .int .i64 a3]) (.agg [.str b0, .int .i64 b1, .int .i64 b2, .int .i64 b3]) = some (decide (a0 = b0) && (decide (a1 = b1) && decide (a2 = b2) && decide (a3 = b3))) := eqT122 5 a0 b0 a1 b1 a2 b2 a3 b3
attribute [go_sem] zuk
theorem zul : Tryz.prog.eqGuardType Tryz.prog.depth 140 = false := by kernel_rfl
theorem eqT140 (d : Nat) (a0 b0 : Int) (a1 b1 : Int) (a2 b2 : Int) (a3 b3 : Int) : eqD Tryz.prog (d + 3) 140 (.agg [.int .i64 a0, .int .i64 a1, .int .i64 a2, .int .i64 a3]) (.agg [.int .i64 b0, .int .i64 b1, .int .i64 b2, .int .i64 b3]) = some ((decide (a0 = b0) && decide (a1 = b1) && decide (a2 = b2)) && decide (a3 = b3)) := by
 rw [z1w Tryz.underlying140 (by kernel_rfl)]
 simp only [z1a, z3x, List.getElem?_cons_zero, List.getElem?_cons_succ, List.drop_succ_cons, List.drop_zero, List.take_succ_cons, List.take_zero, List.length_cons, List.length_nil, Nat.reduceAdd, Nat.reduceLeDiff, if_true, if_false, Bool.false_eq_true, ne_eq, String.reduceEq, not_false_eq_true, decide_eq_true_eq, z4f, z4g, z6g, z3v Tryz.underlying3, z7n, znm, zbw, eqT23]
 (repeat' split) <;> simp_all
@[go_sem] theorem eqU140 (a0 b0 : Int) (a1 b1 : Int) (a2 b2 : Int) (a3 b3 : Int) : eqD Tryz.prog 8 140 (.agg [.int .i64 a0, .int .i64 a1, .int .i64 a2, .int .i64 a3]) (.agg [.int .i64 b0, .int .i64 b1, .int .i64 b2, .int .i64 b3]) = some ((decide (a0 = b0) && decide (a1 = b1) && decide (a2 = b2)) && decide (a3 = b3)) := eqT140 5 a0 b0 a1 b1 a2 b2 a3 b3
attribute [go_sem] zul
theorem zum : Tryz.prog.eqGuardType Tryz.prog.depth 141 = false := by kernel_rfl
theorem eqT141 (d : Nat) (a0 b0 : Int) (a1 b1 : Int) (a2 b2 : Int) (a3 b3 : Int) : eqD Tryz.prog (d + 3) 141 (.agg [.int .i64 a0, .int .i64 a1, .int .i64 a2, .int .i64 a3]) (.agg [.int .i64 b0, .int .i64 b1, .int .i64 b2, .int .i64 b3]) = some ((decide (a0 = b0) && decide (a1 = b1) && decide (a2 = b2)) && decide (a3 = b3)) := by
 rw [z1w Tryz.underlying141 (by kernel_rfl)]
 simp only [z1a, z3x, List.getElem?_cons_zero, List.getElem?_cons_succ, List.drop_succ_cons, List.drop_zero, List.take_succ_cons, List.take_zero, List.length_cons, List.length_nil, Nat.reduceAdd, Nat.reduceLeDiff, if_true, if_false, Bool.false_eq_true, ne_eq, String.reduceEq, not_false_eq_true, decide_eq_true_eq, z4f, z4g, z6g, z3v Tryz.underlying3, z7n, znm, zbw, eqT23]
 (repeat' split) <;> simp_all
@[go_sem] theorem eqU141 (a0 b0 : Int) (a1 b1 : Int) (a2 b2 : Int) (a3 b3 : Int) : eqD Tryz.prog 8 141 (.agg [.int .i64 a0, .int .i64 a1, .int .i64 a2, .int .i64 a3]) (.agg [.int .i64 b0, .int .i64 b1, .int .i64 b2, .int .i64 b3]) = some ((decide (a0 = b0) && decide (a1 = b1) && decide (a2 = b2)) && decide (a3 = b3)) := eqT141 5 a0 b0 a1 b1 a2 b2 a3 b3
attribute [go_sem] zum
theorem zun : Tryz.prog.eqGuardType Tryz.prog.depth 147 = false := by kernel_rfl
theorem eqT147 (d : Nat) (a0 b0 : Int) (a1 b1 : Int) (a2 b2 : Int) (a3 b3 : Int) : eqD Tryz.prog (d + 2) 147 (.agg [.int .i64 a0, .int .i64 a1, .int .i64 a2, .int .i64 a3]) (.agg [.int .i64 b0, .int .i64 b1, .int .i64 b2, .int .i64 b3]) = some (decide (a0 = b0) && decide (a1 = b1) && decide (a2 = b2) && decide (a3 = b3)) := by
 rw [z1w Tryz.underlying147 (by kernel_rfl)]
 simp only [z1a, z3x, List.getElem?_cons_zero, List.getElem?_cons_succ, List.drop_succ_cons, List.drop_zero, List.take_succ_cons, List.take_zero, List.length_cons, List.length_nil, Nat.reduceAdd, Nat.reduceLeDiff, if_true, if_false, Bool.false_eq_true, ne_eq, String.reduceEq, not_false_eq_true, decide_eq_true_eq, z4f, z4g, z6g, z3v Tryz.underlying3]
 (repeat' split) <;> simp_all
@[go_sem] theorem eqU147 (a0 b0 : Int) (a1 b1 : Int) (a2 b2 : Int) (a3 b3 : Int) : eqD Tryz.prog 8 147 (.agg [.int .i64 a0, .int .i64 a1, .int .i64 a2, .int .i64 a3]) (.agg [.int .i64 b0, .int .i64 b1, .int .i64 b2, .int .i64 b3]) = some (decide (a0 = b0) && decide (a1 = b1) && decide (a2 = b2) && decide (a3 = b3)) := eqT147 6 a0 b0 a1 b1 a2 b2 a3 b3
attribute [go_sem] zun
theorem zuo : Tryz.prog.eqGuardType Tryz.prog.depth 148 = false := by kernel_rfl
theorem eqT148 (d : Nat) (a0 b0 : Int) (a1 b1 : Int) (a2 b2 : Int) (a3 b3 : Int) : eqD Tryz.prog (d + 2) 148 (.agg [.int .i64 a0, .int .i64 a1, .int .i64 a2, .int .i64 a3]) (.agg [.int .i64 b0, .int .i64 b1, .int .i64 b2, .int .i64 b3]) = some (decide (a0 = b0) && decide (a1 = b1) && decide (a2 = b2) && decide (a3 = b3)) := by
 rw [z1w Tryz.underlying148 (by kernel_rfl)]
 simp only [z1a, z3x, List.getElem?_cons_zero, List.getElem?_cons_succ, List.drop_succ_cons, List.drop_zero, List.take_succ_cons, List.take_zero, List.length_cons, List.length_nil, Nat.reduceAdd, Nat.reduceLeDiff, if_true, if_false, Bool.false_eq_true, ne_eq, String.reduceEq, not_false_eq_true, decide_eq_true_eq, z4f, z4g, z6g, z3v Tryz.underlying3]
 (repeat' split) <;> simp_all
@[go_sem] theorem eqU148 (a0 b0 : Int) (a1 b1 : Int) (a2 b2 : Int) (a3 b3 : Int) : eqD Tryz.prog 8 148 (.agg [.int .i64 a0, .int .i64 a1, .int .i64 a2, .int .i64 a3]) (.agg [.int .i64 b0, .int .i64 b1, .int .i64 b2, .int .i64 b3]) = some (decide (a0 = b0) && decide (a1 = b1) && decide (a2 = b2) && decide (a3 = b3)) := eqT148 6 a0 b0 a1 b1 a2 b2 a3 b3
attribute [go_sem] zuo
theorem zup : Tryz.prog.eqGuardType Tryz.prog.depth 259 = false := by kernel_rfl
theorem eqT259 (d : Nat) (a0 b0 : Int) (a1 b1 : ByteArray) : eqD Tryz.prog (d + 2) 259 (.agg [.int .i64 a0, .str a1]) (.agg [.int .i64 b0, .str b1]) = some (decide (a0 = b0) && decide (a1 = b1)) := by
 rw [z1w Tryz.underlying259 (by kernel_rfl)]
 simp only [z1a, z3x, List.getElem?_cons_zero, List.getElem?_cons_succ, List.drop_succ_cons, List.drop_zero, List.take_succ_cons, List.take_zero, List.length_cons, List.length_nil, Nat.reduceAdd, Nat.reduceLeDiff, if_true, if_false, Bool.false_eq_true, ne_eq, String.reduceEq, not_false_eq_true, decide_eq_true_eq, z4f, z4g, z6g, z3v Tryz.underlying3, z6o, z8o, z83, z8p Tryz.underlying9]
 (repeat' split) <;> simp_all
@[go_sem] theorem eqU259 (a0 b0 : Int) (a1 b1 : ByteArray) : eqD Tryz.prog 8 259 (.agg [.int .i64 a0, .str a1]) (.agg [.int .i64 b0, .str b1]) = some (decide (a0 = b0) && decide (a1 = b1)) := eqT259 6 a0 b0 a1 b1
attribute [go_sem] zup
theorem zuq : Tryz.prog.eqGuardType Tryz.prog.depth 260 = false := by kernel_rfl
theorem eqT260 (d : Nat) (a0 b0 : Int) (a1 b1 : ByteArray) : eqD Tryz.prog (d + 2) 260 (.agg [.int .i64 a0, .str a1]) (.agg [.int .i64 b0, .str b1]) = some (decide (a0 = b0) && decide (a1 = b1)) := by
 rw [z1w Tryz.underlying260 (by kernel_rfl)]
 simp only [z1a, z3x, List.getElem?_cons_zero, List.getElem?_cons_succ, List.drop_succ_cons, List.drop_zero, List.take_succ_cons, List.take_zero, List.length_cons, List.length_nil, Nat.reduceAdd, Nat.reduceLeDiff, if_true, if_false, Bool.false_eq_true, ne_eq, String.reduceEq, not_false_eq_true, decide_eq_true_eq, z4f, z4g, z6g, z3v Tryz.underlying3, z6o, z8o, z83, z8p Tryz.underlying9]
 (repeat' split) <;> simp_all
@[go_sem] theorem eqU260 (a0 b0 : Int) (a1 b1 : ByteArray) : eqD Tryz.prog 8 260 (.agg [.int .i64 a0, .str a1]) (.agg [.int .i64 b0, .str b1]) = some (decide (a0 = b0) && decide (a1 = b1)) := eqT260 6 a0 b0 a1 b1
attribute [go_sem] zuq
@[go_sem] theorem eqUL3 (a b : Int) : eqD Tryz.prog 8 3 (.int .i64 a) (.int .i64 b) = some (decide (a = b)) := z3v Tryz.underlying3
theorem z0i : Tryz.prog.follows .mixedOrders = true := by kernel_rfl

end Go.Proofs.YtppebcifiejplaaGreatDoor.Facts
namespace Go.Proofs.YtppebcifiejplaaGreatDoor.Abs
open Go.RowKit Go.ChangeShapes Facts
def zoh (P : Program) : Nat -> TypeId -> DataW Unit -> Option (List D)
 | 0, _, _ => none
 | n + 1, t, d => match P.underlying t, d with
  | some .string, .lit (.string l) => some [.str ⟨l.toArray⟩]
  | some (.int k), .lit (.int _ i) => some [.int k i]
  | some (.slice _), .nil => some [.nil]
  | some (.slice e), .slice ds _ => (ds.mapM (zoh P n e)).map fun parts => [.rsl true (z02 P e) (parts.map (elD (z04 P e)))]
  | some (.array m e), .agg ds => if P.cellsOf t = m * P.cellsOf e then (ds.mapM (zoh P n e)).map List.flatten else none
  | _, _ => none
section
variable {P : Program} {W : World} {base : Nat} {spare : Nat -> Bool} {held : Bool}
theorem zoi : ∀ (n : Nat) (m : Nat) (t : TypeId) (cs : List Value) (d : DataW Unit) (p : List MemPlace) (ds : List D), DataW.trod (fun _ => ()) P W base spare held m t cs = some (d, p) -> zoh P n t d = some ds ->
  relAll (z6j W) ds cs /\ z5t cs /\ (z04 P t = false -> ∃ c d', cs = [c] /\ ds = [d']) := by
 intro n
 induction n with
 | zero => intro m t cs d p ds _ h; simp [zoh] at h
 | succ n ih =>
  intro m t cs d p ds ht h
  unfold zoh at h
  split at h
  ·rename_i l hu
   simp only [Option.some.injEq] at h
   subst h
   obtain ⟨s, rfl, hx, _⟩ := DataW.trod_string hu ht
   simp only [Prod.mk.injEq, DataW.lit.injEq, Lit.string.injEq] at hx
   obtain ⟨rfl, _⟩ := hx
   obtain ⟨h1, h2⟩ := z5j (W := W) (d := .str ⟨s.data.toList.toArray⟩) (v := .string s) (by simp only [rel]) rfl
   exact ⟨h1, h2, fun _ => ⟨_, _, rfl, rfl⟩⟩
  ·rename_i k k' i hu
   simp only [Option.some.injEq] at h
   subst h
   obtain ⟨i', rfl, hx, _⟩ := DataW.trod_int hu ht
   simp only [Prod.mk.injEq, DataW.lit.injEq, Lit.int.injEq] at hx
   obtain ⟨⟨_, rfl⟩, _⟩ := hx
   obtain ⟨h1, h2⟩ := z5j (W := W) (d := .int k i) (v := .int k i) (by simp [rel]) rfl
   exact ⟨h1, h2, fun _ => ⟨_, _, rfl, rfl⟩⟩
  ·rename_i e hu
   simp only [Option.some.injEq] at h
   subst h
   rcases DataW.trod_slice hu ht with ⟨rfl, _⟩ | ⟨_, _, _, _, _, _, _, _, hx, _⟩
   ·obtain ⟨h1, h2⟩ := z5j (W := W) (d := .nil) (v := .slice none 0 0) (by simp [rel]) rfl
    exact ⟨h1, h2, fun _ => ⟨_, _, rfl, rfl⟩⟩
   ·simp at hx
  ·rename_i e dl sp hu
   rcases DataW.trod_slice hu ht with ⟨_, hx⟩ | ⟨a, len, cap, elems, rest, m, hm, rfl, hx, _, hl, hcm, hlen, hel, _⟩
   ·simp at hx
   simp only [Prod.mk.injEq, DataW.slice.injEq] at hx
   obtain ⟨⟨rfl, _⟩, _⟩ := hx
   simp only [Option.map_eq_some_iff] at h
   obtain ⟨parts, hparts, rfl⟩ := h
   have hpl : parts.length = len := by
    have := mapM_some_length hparts
    simpa [hlen] using this
   have each : ∀ i : _root_.Fin len, ∃ p : List Value × List D, parts[i.1]? = some p.2 /\ W.cells? base (a.add (i * P.cellsOf e)) (P.cellsOf e) = some p.1 /\ relAll (z6j W) p.2 p.1 /\ z5t p.1 /\ (z04 P e = false -> ∃ c d, p.1 = [c] /\ p.2 = [d]) := by
    intro i
    have hi := hel i i.2
    rw [List.getElem?_eq_getElem (by omega), Option.bind_eq_some_iff] at hi
    obtain ⟨cs', h1, h2⟩ := hi
    have hg := mapM_some_get hparts i.1 (elems[i.1]'(by omega)).1 (by rw [List.getElem?_map, List.getElem?_eq_getElem (by omega)]; rfl)
    rw [List.getElem?_eq_getElem (by omega)] at hg
    obtain ⟨k1, k2, k4⟩ := ih _ e cs' _ _ _ h2 hg
    exact ⟨(cs', parts[i.1]'(by omega)), List.getElem?_eq_getElem (by omega), h1, k1, k2, k4⟩
   obtain ⟨f, hf⟩ := Classical.axiomOfChoice each
   have hag : ∀ i, rel (z6j W) (elD (z04 P e) (f i).2) (elV (z04 P e) (f i).1) /\ (elV (z04 P e) (f i).1).cells.toList = (f i).1 := by
    intro i
    obtain ⟨_, h1, h2, h3, h5⟩ := hf i
    cases hag : z04 P e with
    | true =>
     simp only [elD, elV, if_true, Value.cells]
     exact ⟨by simp only [rel]; exact ⟨_, rfl, h2, h3⟩, trivial⟩
    | false =>
     obtain ⟨c, d, hc1, hd1⟩ := h5 hag
     rw [hc1, hd1] at h2
     rw [hc1] at h3
     simp only [elD, elV, hc1, hd1, Bool.false_eq_true, if_false, List.getElem?_cons_zero, Option.getD_some]
     simp only [relAll] at h2
     obtain ⟨v, r, hv, hrel, hr⟩ := h2
     simp only [List.cons.injEq] at hv
     obtain ⟨rfl, rfl⟩ := hv
     refine ⟨hrel, ?_⟩
     rw [z21 (h3 c (by simp))]
   have hsz : z02 P e = P.cellsOf e := rfl
   obtain ⟨h1, h2⟩ := z5j (W := W) (d := .rsl true (z02 P e) (parts.map (elD (z04 P e)))) (v := .slice (some a) len cap) (by
    simp only [rel]
    refine .inr ⟨a, cap, List.ofFn fun i => elV (z04 P e) (f i).1, by simp [hpl], by simpa [hpl] using hl, hcm, z4j (by simp [hpl]) (fun i d v V hv => ?_), fun i v hv => ?_⟩
    ·simp only [List.getElem?_map, List.getElem?_ofFn] at V hv
     split at hv
     ·rename_i hi
      rw [(hf ⟨i, hi⟩).1] at V
      simp only [Option.map_some, Option.some.injEq] at V hv
      subst V; subst hv
      exact (hag ⟨i, hi⟩).1
     ·cases hv
    ·simp only [List.getElem?_ofFn] at hv
     split at hv
     ·rename_i hi
      simp only [Option.some.injEq] at hv
      subst hv
      obtain ⟨_, g1, _⟩ := hf ⟨i, hi⟩
      obtain ⟨_, g2, g3⟩ := World.cells?_some g1
      have g4 := (hag ⟨i, hi⟩).2
      refine ⟨by rw [<- Array.length_toList, g4, g2, hsz], fun j c hj => ?_⟩
      rw [g4] at hj
      have hjl : j < P.cellsOf e := by rw [<- g2]; exact (List.getElem?_eq_some_iff.1 hj).1
      have := g3 j hjl
      rw [hj] at this
      exact this
     ·cases hv) rfl
   exact ⟨h1, h2, fun _ => ⟨_, _, rfl, rfl⟩⟩
  ·rename_i m' e dl hu
   split at h
   ·rename_i hc
    obtain ⟨xs, m1, hm, hx, hcl, hxl, hxe⟩ := DataW.trod_array hu ht
    simp only [Prod.mk.injEq, DataW.agg.injEq] at hx
    obtain ⟨rfl, _⟩ := hx
    simp only [Option.map_eq_some_iff] at h
    obtain ⟨parts, hparts, rfl⟩ := h
    have hpl : parts.length = m' := by
     have := mapM_some_length hparts
     simpa [hxl] using this
    have key : ∀ k, k <= m' -> relAll (z6j W) (parts.take k).flatten (cs.take (k * P.cellsOf e)) /\ z5t (cs.take (k * P.cellsOf e)) := by
     intro k
     induction k with
     | zero => intro _; simp only [List.take_zero, List.flatten_nil, Nat.zero_mul]; exact ⟨z0q, zhx⟩
     | succ k ihk =>
      intro O
      obtain ⟨q1, q2⟩ := ihk (by omega)
      have hi := hxe k (by omega)
      rw [List.getElem?_eq_getElem (by omega)] at hi
      have hg := mapM_some_get hparts k (xs[k]'(by omega)).1 (by rw [List.getElem?_map, List.getElem?_eq_getElem (by omega)]; rfl)
      rw [List.getElem?_eq_getElem (by omega)] at hg
      obtain ⟨k1, k2, _⟩ := ih _ e _ _ _ _ hi hg
      rw [List.take_succ_eq_append_getElem (by omega), List.flatten_append, Nat.add_mul, Nat.one_mul, List.take_add]
      simp only [List.flatten_cons, List.flatten_nil, List.append_nil]
      exact ⟨z1n q1 k1, z3y q2 k2⟩
    obtain ⟨q1, q2⟩ := key m' (Nat.le_refl _)
    rw [List.take_of_length_le (by omega), List.take_of_length_le (by omega)] at q1
    rw [List.take_of_length_le (by omega)] at q2
    refine ⟨q1, q2, fun hag => ?_⟩
    simp only [z04, hu] at hag
    cases hag
   ·cases h
  ·cases h
theorem zif {g : Nat} {nm : String} {t : TypeId} {cs : Array Value} {fuel : Nat} {d : DataW Unit} {p : List MemPlace} {ds : List D} (hg : P.globalNamed nm = some g) (hv : W.var? P nm = some cs)
  (V : DataW.trod (fun _ => ()) P W 0 (fun _ => true) false fuel t cs.toList = some (d, p)) (hr : zoh P 4 t d = some ds) : rel (z6j W) (.rptr (.agg ds)) (.pointer (some ⟨g, 0, none⟩)) := by
 obtain ⟨h1, h2, _⟩ := zoi 4 fuel t cs.toList d p ds V hr
 simp only [rel]
 refine ⟨_, .agg cs, rfl, ⟨cs.toList, by simp, h1, h2⟩, fun j c hj => ?_⟩
 have := World.var?_cell hg hv j
 rw [z0z, Nat.zero_add]
 show W.cell? _ = _
 rw [this]
 simpa [Value.cells] using hj
end
end Go.Proofs.YtppebcifiejplaaGreatDoor.Abs
namespace Go.Proofs.YtppebcifiejplaaGreatDoor
open Abs Facts Go.RowKit Go.ChangeShapes Go.WideShapes Go.ChangeAt Go.WideMaps Go.WideElems
namespace Glue
set_option maxRecDepth 100000
def laidList : List (String × DataW Unit) := [("unicode/utf8.acceptRanges", Rows.laid_unicode_utf8_acceptRanges), ("pandect/unit.names", Rows.laid_pandect_unit_names), ("pandect/unit.below", Rows.laid_pandect_unit_below), ("pandect/syntax.order", Rows.laid_pandect_syntax_order), ("unicode/utf8.first", Rows.laid_unicode_utf8_first)]
theorem gNames : Tryz.prog.globalNamed "pandect/unit.names" = some 2 := by kernel_rfl
theorem gBelow : Tryz.prog.globalNamed "pandect/unit.below" = some 1 := by kernel_rfl
theorem gOrder : Tryz.prog.globalNamed "pandect/syntax.order" = some 0 := by kernel_rfl
theorem tNames : (Tryz.prog.globals[2]?).map (·.type) = some 280 := by kernel_rfl
theorem tBelow : (Tryz.prog.globals[1]?).map (·.type) = some 214 := by kernel_rfl
theorem tOrder : (Tryz.prog.globals[0]?).map (·.type) = some 160 := by kernel_rfl
theorem zig : (laidList.filter fun x => x.2.handleName?.isNone) = [("unicode/utf8.acceptRanges", Rows.laid_unicode_utf8_acceptRanges), ("pandect/unit.names", Rows.laid_pandect_unit_names), ("pandect/unit.below", Rows.laid_pandect_unit_below), ("unicode/utf8.first", Rows.laid_unicode_utf8_first)] := by kernel_rfl
def zoj : List (String × DataW Unit) := [("unicode/utf8.acceptRanges", Rows.laid_unicode_utf8_acceptRanges), ("pandect/unit.names", Rows.laid_pandect_unit_names), ("pandect/unit.below", Rows.laid_pandect_unit_below)]
def zrz : List (String × DataW Unit) := [("unicode/utf8.first", Rows.laid_unicode_utf8_first)]
theorem g1 : (zoj ++ zrz).filter (fun x => ["unicode/utf8.first"].contains x.1) = zrz := by kernel_rfl
theorem g2 : (zoj ++ zrz).filter (fun x => !["unicode/utf8.first"].contains x.1) = zoj := by kernel_rfl
noncomputable def wR (os : Os) : World := (World.doorLaid Tryz.prog 400 os).layVars Tryz.prog zrz
theorem wR_os (os : Os) : (wR os).os = os := (World.layVars_os _ _ _).trans rfl
theorem zwq (os : Os) : LaidIn Tryz.prog (wR os) zoj [4, 2, 1, 11, 12, 13, 14, 15, 16] := LaidIn.of_run _ 8 (by kernel_rfl) (by kernel_rfl) (by kernel_rfl) (by kernel_rfl)
theorem wR_met (os : Os) : laidMet Tryz.prog (zoj ++ zrz) (wR os) :=
 laidMet_layVars (w0 := World.doorLaid Tryz.prog 400 os) ["unicode/utf8.first"] [4, 2, 1, 11, 12, 13, 14, 15, 16] (by rw [g1]; rfl) (by rw [g1]; kernel_rfl) (by rw [g1]; kernel_rfl) (by rw [g2]; exact zwq os)
theorem zwr (os : Os) : funcsRun Tryz.prog (wR os) 8 ((funcsListed laidList).map (·.1)) = some ((funcsListed laidList).map (·.2.funcsOut)) := by kernel_rfl
theorem door_met (os : Os) (args : Array Value) : laidMetH Tryz.prog laidList (((wR os)).forCall (fun _ _ => 0) ⟨#[], args, []⟩).memory := by
 have h : laidMetH Tryz.prog laidList (wR os) := laidMetH_of_parts3 (fuel := 8) (by rw [zig]; exact wR_met os) (by kernel_rfl) (zwr os)
 exact laidMetH.of_heap (by simp [World.memory, World.forCall, Input.heap]) h
theorem zok {W : World} (h : laidMetH Tryz.prog laidList W) : rel (z6j W) (.rptr (.agg [.fn 374 [], .fn 375 []])) (.pointer (some ⟨0, 0, none⟩)) := by
 obtain ⟨g, t, cs, fuel, p, hg, ht, hv, V⟩ := h.funcs (n := "pandect/syntax.order") (.tail _ (.tail _ (.tail _ (.head _))))
 obtain rfl := Option.some.inj (gOrder.symm.trans hg)
 obtain rfl := Option.some.inj (tOrder.symm.trans ht)
 have hd' : DataW.trod (funcToken Tryz.prog) Tryz.prog W 0 (fun _ => true) true fuel 160 cs.toList = some (.agg [.held [112, 97, 110, 100, 101, 99, 116, 47, 115, 121, 110, 116, 97, 120, 46, 111, 114, 100, 101, 114, 36, 49], .held [112, 97, 110, 100, 101, 99, 116, 47, 115, 121, 110, 116, 97, 120, 46, 111, 114, 100, 101, 114, 36, 50]], p) := V
 obtain ⟨xs, m, rfl, hx, hl, hxl, hxe⟩ := DataW.trod_struct Tryz.underlying160 hd'
 have c1 : Tryz.prog.cellsOf 160 = 2 := by kernel_rfl
 have c2 : Tryz.prog.cellsOf 125 = 1 := by kernel_rfl
 have c3 : Tryz.prog.cellsOf 67 = 1 := by kernel_rfl
 obtain ⟨v1, v2, hcs⟩ : ∃ v1 v2, cs.toList = [v1, v2] := by
  rw [c1] at hl
  match hq : cs.toList, hl with
  | [a, b], _ => exact ⟨a, b, rfl⟩
 obtain ⟨x1, x2, rfl⟩ : ∃ x1 x2, xs = [x1, x2] := by
  match xs, hxl with
  | [a, b], _ => exact ⟨a, b, rfl⟩
 have k1 : DataW.trod (funcToken Tryz.prog) Tryz.prog W 0 (fun _ => true) true m 125 ((cs.toList.drop 0).take (Tryz.prog.cellsOf 125)) = some x1 := hxe 0 _ rfl
 have k2 : DataW.trod (funcToken Tryz.prog) Tryz.prog W 0 (fun _ => true) true m 67 ((cs.toList.drop 1).take (Tryz.prog.cellsOf 67)) = some x2 := hxe 1 _ rfl
 rw [hcs, c2] at k1
 rw [hcs, c3] at k2
 simp only [List.map_cons, List.map_nil, Prod.mk.injEq, DataW.agg.injEq, List.cons.injEq, and_true] at hx
 obtain ⟨⟨e1, e2⟩, _⟩ := hx
 obtain ⟨y1, q1⟩ := x1
 obtain ⟨y2, q2⟩ := x2
 simp only at e1 e2
 subst e1 e2
 obtain rfl := func_of_trod (f0 := 374) Tryz.underlying125 (by kernel_rfl) k1
 obtain rfl := func_of_trod (f0 := 375) Tryz.underlying67 (by kernel_rfl) k2
 simp only [rel]
 refine ⟨_, .agg cs, rfl, ⟨cs.toList, by simp, ?_, ?_⟩, fun j c hj => ?_⟩
 ·rw [hcs]
  exact z0m (by simp only [rel]; exact ⟨[], rfl, z0q⟩) (z0m (by simp only [rel]; exact ⟨[], rfl, z0q⟩) z0q)
 ·rw [hcs]
  intro v hv
  simp only [List.mem_cons, List.not_mem_nil, or_false] at hv
  rcases hv with rfl | rfl <;> rfl
 ·have := World.var?_cell hg hv j
  rw [z0z, Nat.zero_add]
  show W.cell? _ = _
  rw [this]
  simpa [Value.cells] using hj
theorem globOK_laid {W : World} (h : laidMetH Tryz.prog laidList W) : zso W := by
 have ro := zok h
 have h1 := (laidMetH_iff.1 h).1
 rw [zig] at h1
 obtain ⟨ps, ⟨ga, ta, csa, fa, pa, qa, _, _, _, _, ⟨g0, t0, cs0, f0, p0, q0, hg0, ht0, hv0, hd0, ⟨g1, t1, cs1, f1, p1, q1, hg1, ht1, hv1, hd1, _, _⟩, _⟩, _⟩, _, _⟩ := h1
 obtain rfl := Option.some.inj (gNames.symm.trans hg0)
 obtain rfl := Option.some.inj (gBelow.symm.trans hg1)
 obtain rfl := Option.some.inj (tNames.symm.trans ht0)
 obtain rfl := Option.some.inj (tBelow.symm.trans ht1)
 have r0 : rel (z6j W) (globD 2) (.pointer (some ⟨2, 0, none⟩)) := zif hg0 hv0 hd0 (by kernel_rfl)
 have r1 : rel (z6j W) (globD 1) (.pointer (some ⟨1, 0, none⟩)) := zif hg1 hv1 hd1 (by kernel_rfl)
 intro g
 match g with
 | 0 => exact ro
 | 1 => first | exact r0 | exact r1
 | 2 => first | exact r0 | exact r1
 | n + 3 => simp only [globD, rel]
end Glue
end Go.Proofs.YtppebcifiejplaaGreatDoor
namespace Go.Proofs.YtppebcifiejplaaGreatDoor
section
open Abs
namespace Tr
structure Idv where
 act : Int
 item : Int
 n : Int
instance : DecidableEq Idv := fun a b => decidable_of_iff (a.act = b.act /\ a.item = b.item /\ a.n = b.n) ⟨fun ⟨h1, h2, h3⟩ => by cases a; cases b; simp_all, fun h => by subst h; exact ⟨rfl, rfl, rfl⟩⟩
def Idv.zero : Idv := ⟨0, 0, 0⟩
structure Wd where
 text : ByteArray
 by_ : Idv
instance : DecidableEq Wd := fun a b => decidable_of_iff (a.text = b.text /\ a.by_ = b.by_) ⟨fun ⟨h1, h2⟩ => by cases a; cases b; simp_all, fun h => by subst h; exact ⟨rfl, rfl⟩⟩
inductive T where
 | mk (id : Idv) (kind : Int) (label : ByteArray) (head words : List Wd) (kids : List T)
def T.id : T -> Idv | .mk i _ _ _ _ _ => i
def T.kind : T -> Int | .mk _ k _ _ _ _ => k
def T.label : T -> ByteArray | .mk _ _ l _ _ _ => l
def T.head : T -> List Wd | .mk _ _ _ h _ _ => h
def T.words : T -> List Wd | .mk _ _ _ _ w _ => w
def T.kids : T -> List T | .mk _ _ _ _ _ k => k
theorem T.eta (t : T) : T.mk t.id t.kind t.label t.head t.words t.kids = t := by cases t; rfl
mutual
theorem z55 {p : T -> Prop} (h : ∀ t, (∀ k ∈ t.kids, p k) -> p t) : ∀ t, p t
 | .mk i k l a b ks => h (.mk i k l a b ks) (ind2 h ks)
theorem ind2 {p : T -> Prop} (h : ∀ t, (∀ k ∈ t.kids, p k) -> p t) : ∀ (ks : List T), ∀ k ∈ ks, p k
 | [], k, O => by cases O
 | t :: ts, k, O => by
  rcases List.mem_cons.1 O with e | O
  ·rw [e]; exact z55 h t
  ·exact ind2 h ts k O
end
mutual
def zec {β : Type} (f : T -> List β -> β) : T -> β
 | .mk i k l a b ks => f (.mk i k l a b ks) (recL f ks)
def recL {β : Type} (f : T -> List β -> β) : List T -> List β
 | [] => []
 | t :: ts => zec f t :: recL f ts
end
theorem ztd {β : Type} (f : T -> List β -> β) : ∀ ks, recL f ks = ks.map (zec f)
 | [] => rfl
 | t :: ts => by simp [recL, ztd f ts]
theorem z39 {β : Type} (f : T -> List β -> β) (t : T) : zec f t = f t (t.kids.map (zec f)) := by
 cases t with
 | mk i k l a b ks => rw [zec, ztd]; rfl
end Tr
namespace Abs
open Tr
def z08 (i : Idv) : List D := [.int .i64 i.act, .int .i64 i.item, .int .i64 i.n]
def z6x (i : Idv) : D := .agg (z08 i)
def z0o (l : List Idv) : D := .rsl false 3 (l.map z6x)
def z7f (w : Wd) : List D := [.str w.text, .int .i64 w.by_.act, .int .i64 w.by_.item, .int .i64 w.by_.n]
def zp2 (w : Wd) : D := .agg (z7f w)
def z0s (l : List Wd) : D := .rsl false 4 (l.map zp2)
def zte (t : T) (ks : List (List D)) : List D := [.int .i64 t.id.act, .int .i64 t.id.item, .int .i64 t.id.n, .int .i64 t.kind, .str t.label, z0s t.head, z0s t.words, .rsl false 8 (ks.map .agg)]
def z07 (t : T) : List D := zec zte t
def z25 (t : T) : D := .agg (z07 t)
def z10 (l : List T) : D := .rsl false 8 (l.map z25)
theorem z1p (t : T) : z07 t = [.int .i64 t.id.act, .int .i64 t.id.item, .int .i64 t.id.n, .int .i64 t.kind, .str t.label, z0s t.head, z0s t.words, z10 t.kids] := by
 unfold z07
 rw [z39, zte, List.map_map]; rfl
@[go_sem] theorem z0v (t : T) : (z07 t).length = 8 := by rw [z1p]; rfl
@[go_sem] theorem cellsU_kind (t : T) : (z07 t)[3]? = some (.int .i64 t.kind) := by rw [z1p]; rfl
@[go_sem] theorem zzb (t : T) : (z07 t)[4]? = some (.str t.label) := by rw [z1p]; rfl
@[go_sem] theorem cellsU_head (t : T) : (z07 t)[5]? = some (z0s t.head) := by rw [z1p]; rfl
@[go_sem] theorem zzc (t : T) : (z07 t)[6]? = some (z0s t.words) := by rw [z1p]; rfl
@[go_sem] theorem cellsU_kids (t : T) : (z07 t)[7]? = some (z10 t.kids) := by rw [z1p]; rfl
@[go_sem] theorem cellsU_id (t : T) : List.take 3 (z07 t) = [.int .i64 t.id.act, .int .i64 t.id.item, .int .i64 t.id.n] := by rw [z1p]; rfl
@[go_sem] theorem cellsU_take (t : T) : List.take 8 (z07 t) = z07 t := List.take_of_length_le (by rw [z0v]; exact Nat.le_refl _)
@[go_sem] theorem zxe (a b c d e f g h : D) (t : T) : z11 [a, b, c, d, e, f, g, h] 0 (z07 t) = z07 t := by
 rw [z1p]; rfl
@[go_sem] theorem encU_agg (t : T) : z25 t = .agg (z07 t) := rfl
@[go_sem] theorem encWd_agg (w : Wd) : zp2 w = .agg [.str w.text, .int .i64 w.by_.act, .int .i64 w.by_.item, .int .i64 w.by_.n] := rfl
@[go_sem] theorem encId_agg (i : Idv) : z6x i = .agg [.int .i64 i.act, .int .i64 i.item, .int .i64 i.n] := rfl
theorem z13 (l : List Wd) : pureD (z0s l) = true := by simp only [z0s, pureD]; exact z1l (fun _ => rfl) l
theorem z7g (l : List Idv) : pureD (z0o l) = true := by simp only [z0o, pureD]; exact z1l (fun _ => rfl) l
theorem zna {f : T -> D} : ∀ {l : List T}, (∀ t ∈ l, pureD (f t) = true) -> pureD.pureL (l.map f) = true
 | [], _ => rfl
 | t :: l, h => by
  simp only [List.map_cons, pureD.pureL, Bool.and_eq_true]
  exact ⟨h t (by simp), zna fun k O => h k (List.mem_cons_of_mem _ O)⟩
theorem z05 : ∀ t, pureD (z25 t) = true := by
 refine z55 fun t ih => ?_
 rw [z25, z1p]
 have O : pureD (z10 t.kids) = true := by simp only [z10, pureD]; exact zna ih
 simp only [pureD, pureD.pureL, Bool.true_and, Bool.and_true, z13, O]
theorem z1d (t : T) : pureD.pureL (z07 t) = true := by have := z05 t; simpa only [z25, pureD] using this
theorem z36 (l : List T) : pureD (z10 l) = true := by simp only [z10, pureD]; exact z1l z05 l
@[go_sem] theorem pureL_encU (l : List T) : pureD.pureL (l.map z25) = true := z1l z05 l
@[go_sem] theorem pureL_encWd (l : List Wd) : pureD.pureL (l.map zp2) = true := z1l (fun _ => rfl) l
@[go_sem] theorem pureL_encId (l : List Idv) : pureD.pureL (l.map z6x) = true := z1l (fun _ => rfl) l
attribute [go_sem] z1d
@[go_sem] theorem idEq (i j : Idv) : (decide (i.act = j.act) && (decide (i.item = j.item) && decide (i.n = j.n))) = decide (i = j) := by
 obtain ⟨a, b, c⟩ := i; obtain ⟨a', b', c'⟩ := j
 rw [Bool.eq_iff_iff]; simp [Idv.mk.injEq]
@[go_sem] theorem idEq' (i j : Idv) : (decide (i.act = j.act) && decide (i.item = j.item) && decide (i.n = j.n)) = decide (i = j) := by rw [Bool.and_assoc, idEq]
@[go_sem] theorem idZ (i : Idv) : (decide (i.act = 0) && (decide (i.item = 0) && decide (i.n = 0))) = decide (i = Idv.zero) := idEq i Idv.zero
@[go_sem] theorem idZ' (i : Idv) : (decide (i.act = 0) && decide (i.item = 0) && decide (i.n = 0)) = decide (i = Idv.zero) := idEq' i Idv.zero
@[go_sem] theorem wdEq (u v : Wd) : (decide (u.text = v.text) && decide (u.by_ = v.by_)) = decide (u = v) := by
 obtain ⟨a, b⟩ := u; obtain ⟨a', b'⟩ := v
 rw [Bool.eq_iff_iff]; simp [Wd.mk.injEq]
end Abs
end
section
open Abs Facts Tr
attribute [local irreducible] awp
namespace Tr
def z8g (l : List Wd) : Bool := l.all (fun w => decide (w.text.size <= 100)) && decide (l.length <= 300)
def zdw (t : T) : Bool := zec (fun t l => decide (t.label.size <= 30) && (z8g t.head && (z8g t.words && l.all id))) t
theorem zid (t : T) : zdw t = (decide (t.label.size <= 30) && (z8g t.head && (z8g t.words && t.kids.all zdw))) := by
 unfold zdw
 rw [z39, List.all_map]; rfl
theorem z3r {α : Type} {f : α -> Bool} {l : List α} {k : Nat} (O : k < l.length) (h : f l[k] = false) : l.all f = false := List.all_eq_false.2 ⟨_, List.getElem_mem O, by simp [h]⟩
theorem z2f {α : Type} {f : α -> Bool} {l : List α} {k : Nat} (O : k < l.length) (h : (l.take k).all f = true) (h2 : f l[k] = true) : (l.take (k + 1)).all f = true := by
 rw [List.take_succ_eq_append_getElem O, List.all_append, h, List.all_cons, h2]; rfl
theorem z2l {α : Type} {f : α -> Bool} {l : List α} {k : Nat} (O : ¬ k < l.length) (h : (l.take k).all f = true) : l.all f = true := by rwa [List.take_of_length_le (by omega)] at h
end Tr
theorem zms (l : List Wd) (hl : l.length <= maxLen) : PC Tryz.prog 132 [z0s l] (.bool (z8g l)) := by
 unfold maxLen at hl
 refine z1y 1 (by simp only [pureD.pureL, z13, Bool.and_self]) rfl (z1v [] Tryz.func132 rfl (by decide +kernel) z0i (by decide +kernel) (by simp [Tryz.ntmps132]) ?_)
 show awp _ _ (Code.seq _ _) _ _
 repeat' (first | refine zqj ?_ | ((refine zqh fun K J => ?_); (simp (disch := omega) only [go_sem, z0s])) | refine zqa ?_ | (refine J _ ?_; clear J K))
 (refine z3h (fun U st => ∃ (k : _), U = l.length - k /\ st.t 0 = z0s l /\ st.t 3 = .int .i64 k /\ (k <= l.length) /\ ((l.take k).all (fun w => decide (w.text.size <= 100)) = true)) ?_ ?_); rotate_left; (rintro U st ⟨k, rfl, s0, s3, sp0, sp1⟩); rotate_left
 ·(refine ⟨_, 0, rfl, ?_⟩); (simp (disch := omega) only [go_sem, Nat.reduceBEq, true_and, Int.natCast_zero, z0s])
  try simp
 repeat' (first | refine zqj ?_ | ((first | refine zqh fun K J => ?_ | refine zqr fun K J => ?_); (simp (disch := omega) only [go_sem, Nat.reduceBEq, ↓reduceIte, reduceCtorEq, Nat.reduceAdd, s0, s3, z0s])) | ((first | refine zqd _ rfl (fun hc => ?_) (fun hc => ?_) | refine zqm _ rfl (fun hc => ?_) (fun hc => ?_)) <;> (((try simp only [z01] at hc); (try (exfalso; omega))))) | refine zqa ?_ | refine zqb ?_ | refine zqc ?_ | refine zqk ?_ | refine zqn ?_ | refine zqv ?_ | refine zqx ?_ | refine zqy ?_ | refine zqz ?_ | refine z23 ?_ | refine zqp ?_ | refine zqo ?_ | refine zqu (by (simp (disch := omega) only [go_sem]); rfl) rfl ?_ | (refine J _ ?_; clear J K))
 ·have O : k < l.length := by omega
  refine z00 ?_
  have : l.all (fun w => decide (w.text.size <= 100)) = false := z3r O (decide_eq_false (by omega))
  simp only [z8g, this]; rfl
 ·have O : k < l.length := by omega
  (refine Exists.intro _ (And.intro ?_ ⟨k + 1, rfl, ?_⟩)); rotate_left; (simp (disch := omega) only [go_sem, Nat.reduceBEq, s0, s3, true_and, Int.natCast_add, Int.natCast_one]); rotate_left
  ·omega
  ·exact ⟨by omega, z2f O sp1 (decide_eq_true (by omega))⟩
 ·have := z2l (by omega) sp1
  refine z00 ?_
  simp only [z8g, this, Bool.true_and]
  congr 1; simp only [eq_iff_iff]; omega
namespace Tr
def fitB (t : T) : Bool := zec (fun t l => decide (t.head.length <= maxLen) && (decide (t.words.length <= maxLen) && (decide (t.kids.length <= maxLen) && l.all id))) t
theorem z9x (t : T) : fitB t = true ↔ t.head.length <= maxLen /\ t.words.length <= maxLen /\ t.kids.length <= maxLen /\ ∀ k ∈ t.kids, fitB k = true := by
 unfold fitB
 rw [z39]
 simp only [List.all_map, Bool.and_eq_true, decide_eq_true_iff, List.all_eq_true]
 rfl
def z38 (deep most : Int) : List (Int -> Int -> Int) -> Int -> Int
 | [], n => n
 | f :: fs, n => if n <= most then z38 deep most fs (n + f (deep + 1) (most - n)) else n
def z3j (t : T) : Int -> Int -> Int := zec (fun _ l deep most => if 20 < deep then most + 1 else z38 deep most l 1) t
theorem zh2 (t : T) (deep most : Int) : z3j t deep most = if 20 < deep then most + 1 else z38 deep most (t.kids.map z3j) 1 := by
 unfold z3j; rw [z39]
theorem zg2 (deep most : Int) (f : Int -> Int -> Int) : ∀ (l : List (Int -> Int -> Int)) (n : Int), z38 deep most l n <= most -> z38 deep most (l ++ [f]) n = z38 deep most l n + f (deep + 1) (most - z38 deep most l n)
 | [], n, h => by simp only [z38] at h; simp only [List.nil_append, z38]; rw [if_pos h]
 | g :: l, n, h => by
  simp only [List.cons_append, z38] at h ⊢
  split at h
  ·rename_i hn
   simp only [hn, if_true]
   exact zg2 deep most f l _ h
  ·omega
theorem zg3 (deep most : Int) : ∀ (l r : List (Int -> Int -> Int)) (n : Int), most < z38 deep most l n -> z38 deep most (l ++ r) n = z38 deep most l n
 | [], r, n, h => by
  simp only [z38] at h
  simp only [List.nil_append]
  cases r with
  | nil => rfl
  | cons f r => simp only [z38]; rw [if_neg (by omega)]
 | g :: l, r, n, h => by
  simp only [List.cons_append, z38] at h ⊢
  split
  ·rename_i hn
   simp only [hn, if_true] at h
   exact zg3 deep most l r _ h
  ·rfl
theorem z8h {deep most : Int} : ∀ (l : List T), (∀ k ∈ l, ∀ (deep most : Int), 0 <= most -> 1 <= z3j k deep most /\ z3j k deep most <= most + 1) -> ∀ n : Int, 1 <= n -> n <= most + 1 -> 1 <= z38 deep most (l.map z3j) n /\ z38 deep most (l.map z3j) n <= most + 1
 | [], _, n, h1, h2 => ⟨h1, h2⟩
 | k :: l, O, n, h1, h2 => by
  simp only [List.map_cons, z38]
  split
  ·have := O k (by simp) (deep + 1) (most - n) (by omega)
   exact z8h l (fun q hq => O q (List.mem_cons_of_mem _ hq)) _ (by omega) (by omega)
  ·exact ⟨h1, h2⟩
theorem z6a : ∀ (t : T) (deep most : Int), 0 <= most -> 1 <= z3j t deep most /\ z3j t deep most <= most + 1 := by
 refine z55 fun t ih deep most hm => ?_
 rw [zh2]
 split
 ·omega
 ·exact z8h t.kids ih 1 (by omega) (by omega)
end Tr
theorem zwj : ∀ t : T, fitB t = true -> PC Tryz.prog 68 [z25 t] (.bool (zdw t)) := by
 refine z55 fun t ih hfit => ?_
 obtain ⟨h1, h2, h3, h4⟩ := (z9x t).1 hfit
 have ih := fun k O => ih k O (h4 k O)
 have hsh := zms t.head h1
 have hsw := zms t.words h2
 unfold maxLen at h1 h2 h3
 rw [zid]
 refine z1y 1 (by simp only [pureD.pureL, z05, Bool.and_self]) rfl (z1v [] Tryz.func68 rfl (by decide +kernel) z0i (by decide +kernel) (by simp [Tryz.ntmps68]) ?_)
 show awp _ _ (Code.seq _ _) _ _
 repeat' (first | refine zqj ?_ | ((first | refine zqh fun K J => ?_ | refine zqs (hsh) ?_ | refine zqs (hsw) ?_); (simp (disch := omega) only [go_sem, Nat.reduceBEq, ↓reduceIte, reduceCtorEq, Nat.reduceAdd])) | ((refine zqd _ rfl (fun hc => ?_) (fun hc => ?_)) <;> (first | (cases hc; done) | ((try simp only [z01] at hc); (try (exfalso; omega))))) | refine zqa ?_ | refine zqb ?_ | refine zqg ?_ | refine zqu (by (simp (disch := omega) only [go_sem]); rfl) rfl ?_ | (refine J _ ?_; clear J K) | (refine zqf (fun hb => ?_) (fun hb => ?_) <;> (have hb2 := hb; try simp only [z01] at hb2) <;> ((first | have F : (_ : Bool) = _ := hb2 | have F := eq_false hb2 | have F := eq_true hb2); (simp (disch := omega) only [go_sem, Nat.reduceBEq, ↓reduceIte, reduceCtorEq, Nat.reduceAdd, F]); clear hb F; (try (exfalso; omega)))))
 rotate_right
 all_goals first | exact z00 (by simp_all; try omega) | skip
 have hlab : decide (t.label.size <= 30) = true := decide_eq_true (by omega)
 rw [hlab, ‹z8g t.head = true›, ‹z8g t.words = true›, Bool.true_and, Bool.true_and, Bool.true_and]
 (refine z3h (fun U st => ∃ (i : _), U = t.kids.length - i /\ st.t 1 = .ptr 0 0 /\ st.t 3 = .int .i64 i /\ st.H 0 = some (.box 27 (z07 t)) /\ (i <= t.kids.length) /\ ((t.kids.take i).all zdw = true) /\ (1 <= st.nx)) ?_ ?_); rotate_left; (rintro U st ⟨i, rfl, s1, s3, sH0, sp0, sp1, sp2⟩); rotate_left
 ·(refine ⟨_, 0, rfl, ?_⟩); (simp (disch := omega) only [go_sem, Nat.reduceBEq, Nat.reduceLeDiff, true_and, and_true, Int.natCast_zero])
  try simp
 have hin := fun (h : i < t.kids.length) => ih t.kids[i] (List.getElem_mem h)
 repeat' (first | refine zqj ?_ | ((first | refine zqh fun K J => ?_ | refine zqr fun K J => ?_ | refine zqs (hin (by omega)) ?_); (simp (disch := omega) only [go_sem, Nat.reduceBEq, ↓reduceIte, reduceCtorEq, Nat.reduceAdd, s1, s3, sH0, z10])) | ((first | refine zqd _ rfl (fun hc => ?_) (fun hc => ?_) | refine zqm _ rfl (fun hc => ?_) (fun hc => ?_)) <;> (((try simp only [z01] at hc); (try (exfalso; omega))))) | refine zqa ?_ | refine zqb ?_ | refine zqc ?_ | refine zqk ?_ | refine zqn ?_ | refine zqv ?_ | refine zqx ?_ | refine zqy ?_ | refine zqz ?_ | refine z23 ?_ | refine zqp ?_ | refine zqo ?_ | refine zqu (by (simp (disch := omega) only [go_sem]); rfl) rfl ?_ | (refine J _ ?_; clear J K))
 ·exact z00 (z3r (k := i) (by omega) (by assumption)).symm
 ·(refine Exists.intro _ (And.intro ?_ ⟨i + 1, rfl, ?_⟩)); rotate_left; (simp (disch := omega) only [go_sem, Nat.reduceBEq, s1, s3, sH0, true_and, Int.natCast_add, Int.natCast_one]); rotate_left
  ·omega
  ·exact ⟨by omega, z2f (by omega) sp1 (by assumption), by omega⟩
 ·exact z00 (z2l (by omega) sp1).symm
theorem z001 : ∀ t : T, fitB t = true -> ∀ deep most : Int, 0 <= deep -> deep <= 21 -> 0 <= most -> most <= 1000 -> PC Tryz.prog 67 [z25 t, .int .i64 deep, .int .i64 most] (.int .i64 (z3j t deep most)) := by
 refine z55 fun t ih hfit deep most hd0 hd1 hm0 hm1 => ?_
 obtain ⟨h1, h2, h3, h4⟩ := (z9x t).1 hfit
 unfold maxLen at h1 h2 h3
 have hb := z6a t deep most hm0
 rw [zh2] at hb ⊢
 refine z1y 1 (by simp only [pureD.pureL, z05, pureD, Bool.and_self]) rfl (z1v [] Tryz.func67 rfl (by decide +kernel) z0i (by decide +kernel) (by simp [Tryz.ntmps67]) ?_)
 show awp _ _ (Code.seq _ _) _ _
 repeat' (first | refine zqj ?_ | ((refine zqh fun K J => ?_); (simp (disch := omega) only [go_sem, Nat.reduceBEq, ↓reduceIte])) | ((refine zqd _ rfl (fun hc => ?_) (fun hc => ?_)) <;> (((try simp only [z01] at hc); (try (exfalso; omega))))) | refine zqa ?_ | refine zqb ?_ | refine zqg ?_ | refine zqu (by (simp (disch := omega) only [go_sem]); rfl) rfl ?_ | (refine J _ ?_; clear J K))
 ·refine z56 ?_
  rw [if_pos (by assumption)]
 ·rw [if_neg (by assumption)] at hb ⊢
  (refine z3h (fun U st => ∃ (i : _), U = t.kids.length - i /\ st.t 1 = .int .i64 deep /\ st.t 2 = .int .i64 most /\ st.t 3 = .ptr 0 0 /\ st.t 7 = .int .i64 (z38 deep most ((t.kids.take i).map z3j) 1) /\ st.t 8 = .int .i64 i /\ st.H 0 = some (.box 27 (z07 t)) /\ (i <= t.kids.length) /\ (1 <= st.nx)) ?_ ?_); rotate_left; (rintro U st ⟨i, rfl, s1, s2, s3, s7, s8, sH0, sp0, sp1⟩); rotate_left
  ·(refine ⟨_, 0, rfl, ?_⟩); (simp (disch := omega) only [go_sem, Nat.reduceBEq, Nat.reduceLeDiff, true_and, and_true, and_self, Int.natCast_zero, List.map_nil])
   try simp [z38]
  have hin := fun (h : i < t.kids.length) => ih t.kids[i] (List.getElem_mem h) (h4 _ (List.getElem_mem h)) (deep + 1) (most - z38 deep most ((t.kids.take i).map z3j) 1)
  have hpb := z8h (deep := deep) (most := most) (t.kids.take i) (fun k _ => z6a k) 1 (by omega) (by omega)
  have hnext : ∀ h : i < t.kids.length, z38 deep most ((t.kids.take i).map z3j) 1 <= most -> z38 deep most ((t.kids.take (i + 1)).map z3j) 1 = z38 deep most ((t.kids.take i).map z3j) 1 + z3j t.kids[i] (deep + 1) (most - z38 deep most ((t.kids.take i).map z3j) 1) := fun h hle => by
   rw [List.take_succ_eq_append_getElem h, List.map_append, List.map_cons, List.map_nil, zg2 _ _ _ _ _ hle]
  have hkb := fun (h : i < t.kids.length) => z6a t.kids[i] (deep + 1) (most - z38 deep most ((t.kids.take i).map z3j) 1)
  have hstop : most < z38 deep most ((t.kids.take i).map z3j) 1 -> z38 deep most (t.kids.map z3j) 1 = z38 deep most ((t.kids.take i).map z3j) 1 := fun h => by
   have := zg3 deep most ((t.kids.take i).map z3j) ((t.kids.drop i).map z3j) 1 h
   rwa [<- List.map_append, List.take_append_drop] at this
  repeat' (first | refine zqj ?_ | ((first | refine zqh fun K J => ?_ | refine zqr fun K J => ?_ | refine zqs (hin (by omega) (by omega) (by omega) (by omega) (by omega)) ?_); (simp (disch := omega) only [go_sem, Nat.reduceBEq, ↓reduceIte, reduceCtorEq, Nat.reduceAdd, s1, s2, s3, s7, s8, sH0, z10])) | ((refine zqd _ rfl (fun hc => ?_) (fun hc => ?_)) <;> (first | (cases hc; done) | ((try simp only [z01] at hc); (try (exfalso; omega))))) | refine zqa ?_ | refine zqb ?_ | refine zqc ?_ | refine zqn ?_ | refine zqv ?_ | refine zqy ?_ | refine zqz ?_ | refine zqp ?_ | refine zqu (by (simp (disch := omega) only [go_sem]); rfl) rfl ?_ | (refine J _ ?_; clear J K) | (refine zqf (fun hb => ?_) (fun hb => ?_) <;> (have hb2 := hb; try simp only [z01] at hb2) <;> ((first | have F := eq_false hb2 | have F := eq_true hb2); (simp (disch := omega) only [go_sem, Nat.reduceBEq, ↓reduceIte, F, s2, s7]); clear hb F; (try (exfalso; omega)))))
  ·have O := hkb (by omega) (by omega)
   have hn := hnext (by omega) (by assumption)
   (refine Exists.intro _ (And.intro ?_ ⟨i + 1, rfl, ?_⟩)); rotate_left; (simp (disch := omega) only [go_sem, Nat.reduceBEq, s1, s2, s3, s7, s8, sH0, true_and, Int.natCast_add, Int.natCast_one]); rotate_left
   ·omega
   ·rw [hn]
    exact ⟨rfl, by omega, by omega⟩
  ·exact z56 (hstop (by omega)).symm
  ·have : t.kids.take i = t.kids := List.take_of_length_le (by omega)
   rw [this]
   exact z56 rfl
namespace Tr
def zz4 (t : T) (most : Int) : Bool := decide (z3j t 0 most <= most) && zdw t
end Tr
theorem zz5 (t : T) (hfit : fitB t = true) (most : Int) (hm0 : 0 <= most) (hm1 : most <= 1000) : PC Tryz.prog 22 [z25 t, .int .i64 most] (.bool (zz4 t most)) := by
 refine z1y 1 (by simp only [pureD.pureL, z05, pureD, Bool.and_self]) rfl (z1v [] Tryz.func22 rfl (by decide +kernel) z0i (by decide +kernel) (by simp [Tryz.ntmps22]) ?_)
 show awp _ _ (Code.seq _ _) _ _
 have hs := z001 t hfit 0 most (by omega) (by omega) hm0 hm1
 have hw := zwj t hfit
 repeat' (first | ((first | refine zqh fun K J => ?_ | refine zqs (hs) ?_ | refine zqs (hw) ?_); (simp (disch := omega) only [go_sem, Nat.reduceBEq, ↓reduceIte, Nat.reduceAdd, Nat.reduceLeDiff])) | refine zqn ?_ | refine zqu (by (simp (disch := omega) only [go_sem]); rfl) rfl ?_ | (refine J _ ?_; clear J K) | (refine zqf (fun hb => ?_) (fun hb => ?_) <;> (have hb2 := hb; try simp only [z01] at hb2) <;> ((first | have F := eq_false hb2 | have F := eq_true hb2); (simp (disch := omega) only [go_sem, Nat.reduceBEq, ↓reduceIte, Nat.reduceAdd, Nat.reduceLeDiff, F]); clear hb F; (try (exfalso; omega)))))
 ·exact z00 (by unfold zz4; rw [decide_eq_true (by assumption), Bool.true_and])
 ·exact z00 (by unfold zz4; rw [decide_eq_false (by assumption), Bool.false_and])
namespace Tr
def bl (s : ByteArray) : List UInt8 := s.data.toList
theorem z18 (s : ByteArray) : (bl s).length = s.size := rfl
def dig (b : UInt8) : Bool := decide (48 <= b.toNat /\ b.toNat <= 57)
def cap (b : UInt8) : Bool := decide (65 <= b.toNat /\ b.toNat <= 90)
def ink (b : UInt8) : Bool := decide (33 <= b.toNat /\ b.toNat <= 126)
def z8a (s : ByteArray) : Nat := ((bl s).takeWhile dig).length
def z3c (s : ByteArray) : Bool := decide (1 <= z8a s /\ z8a s <= 4 /\ ((bl s).headD 0).toNat ≠ 48 /\ s.size - z8a s <= 3) && ((bl s).drop (z8a s)).all cap
def z87 (s : ByteArray) : Bool := decide (1 <= s.size /\ s.size <= 24) && (bl s).all ink
def zfg (l : List ByteArray) : Bool := decide (l.length <= 256) && l.all z87
def zl7 (l : List Wd) : Bool := decide (l.length <= 256) && l.all fun w => z87 w.text
theorem zwe (l : List Wd) : zl7 l = (decide (l.length <= 256) && zfg (l.map (·.text))) := by
 unfold zl7 zfg
 rw [List.length_map, List.all_map]
 cases decide (l.length <= 256) <;> simp [Function.comp_def]
theorem z5g {α : Type} {p : α -> Bool} : ∀ {l : List α} {k : Nat} (_ : k <= l.length), (∀ j, (hj : j < k) -> p (l[j]'(by omega)) = true) -> (∀ h : k < l.length, p l[k] = false) -> (l.takeWhile p).length = k
 | [], k, O, _, _ => by simp at O; simp [O]
 | x :: l, 0, _, _, h2 => by
  have := h2 (by simp)
  simp only [List.getElem_cons_zero] at this
  simp [this]
 | x :: l, k + 1, O, h1, h2 => by
  have h0 := h1 0 (by omega)
  simp only [List.getElem_cons_zero] at h0
  rw [List.takeWhile_cons, if_pos h0, List.length_cons]
  have := z5g (p := p) (l := l) (k := k) (by simpa using O) (fun j hj => by simpa using h1 (j + 1) (by omega)) (fun h => h2 (by simpa using h))
  rw [this]
theorem zbf (s : ByteArray) : z8a s <= s.size := by
 unfold z8a
 rw [<- z18]
 exact (List.takeWhile_prefix _).length_le
end Tr
theorem zdi {s : ByteArray} {i : Nat} (h : i < s.size) : s[i]? = some ((bl s)[i]'h) := getElem?_pos s i h
theorem zo1 {s : ByteArray} (h : 0 < s.size) : (bl s)[0]'h = (bl s).headD 0 := by
 have : ∀ (l : List UInt8) (h : 0 < l.length), l[0]'h = l.headD 0 := fun l h => by cases l with
  | nil => exact absurd h (by simp)
  | cons a l => rfl
 exact this _ _
theorem zrj (s : ByteArray) (hs : s.size <= maxLen) : PC Tryz.prog 160 [.str s] (.int .i64 (z8a s)) := by
 unfold maxLen at hs
 refine z1y 1 (by simp only [pureD.pureL, pureD, Bool.and_self]) rfl (z1v [] Tryz.func160 rfl (by decide +kernel) z0i (by decide +kernel) (by simp [Tryz.ntmps160]) ?_)
 show awp _ _ (Code.seq _ _) _ _
 repeat' (first | ((refine zqh fun K J => ?_); (simp (disch := omega) only [go_sem])) | refine zqa ?_ | (refine J _ ?_; clear J K))
 have hbl := z18 s
 (refine z3h (fun U st => ∃ (k : _), U = s.size - k /\ st.t 0 = .str s /\ st.t 3 = .int .i64 k /\ (k <= s.size) /\ (∀ j, (hj : j < k) -> (h : j < (bl s).length) -> dig (bl s)[j] = true)) ?_ ?_); rotate_left; (rintro U st ⟨k, rfl, s0, s3, sp0, sp1⟩); rotate_left
 ·(refine ⟨_, 0, rfl, ?_⟩); (simp (disch := omega) only [go_sem, Nat.reduceBEq, true_and, Int.natCast_zero])
  exact fun j hj => by omega
 repeat' (first | refine zqj ?_ | ((first | refine zqh fun K J => ?_ | refine zqr fun K J => ?_); (simp (disch := omega) only [go_sem, Nat.reduceBEq, ↓reduceIte, s0, s3])) | ((refine zqd _ rfl (fun hc => ?_) (fun hc => ?_)) <;> (first | (cases hc; done) | ((try simp only [z01] at hc); (try (exfalso; omega))))) | refine zqi ?_ | refine zqb ?_ | refine zqc ?_ | refine zqn ?_ | refine zqv ?_ | refine zqy ?_ | refine zqz ?_ | refine zqp ?_ | refine zqu (by (simp (disch := omega) only [go_sem]); rfl) rfl ?_ | (refine J _ ?_; clear J K) | (refine zqf (fun hb => ?_) (fun hb => ?_) <;> (have hb2 := hb; try simp only [z01] at hb2) <;> ((first | have F := eq_false hb2 | have F := eq_true hb2); (simp (disch := omega) only [go_sem, Nat.reduceBEq, ↓reduceIte, F, s0, s3, zdi]); clear hb F; (try (exfalso; omega)))))
 ·(refine Exists.intro _ (And.intro ?_ ⟨k + 1, rfl, ?_⟩)); rotate_left; (simp (disch := omega) only [go_sem, Nat.reduceBEq, s0, s3, true_and, Int.natCast_add, Int.natCast_one]); rotate_left
  ·omega
  ·refine ⟨by omega, fun j hj h => ?_⟩
   by_cases e : j = k
   ·subst e; unfold dig; exact decide_eq_true (by omega)
   ·exact sp1 j (by omega) h
 all_goals
  refine z56 ?_
  have := z5g (p := dig) (l := bl s) (k := k) (by omega) (fun j hj => sp1 j hj (by omega)) (fun h => by
   unfold dig; exact decide_eq_false (by omega))
  unfold z8a; rw [this]
theorem zzy (s : ByteArray) (hs : s.size <= maxLen) : PC Tryz.prog 249 [.str s] (.bool (z87 s)) := by
 unfold maxLen at hs
 refine z1y 1 (by simp only [pureD.pureL, pureD, Bool.and_self]) rfl (z1v [] Tryz.func249 rfl (by decide +kernel) z0i (by decide +kernel) (by simp [Tryz.ntmps249]) ?_)
 show awp _ _ (Code.seq _ _) _ _
 repeat' (first | refine zqj ?_ | ((refine zqh fun K J => ?_); (simp (disch := omega) only [go_sem, Nat.reduceBEq, ↓reduceIte])) | ((refine zqd _ rfl (fun hc => ?_) (fun hc => ?_)) <;> (first | (cases hc; done) | ((try simp only [z01] at hc); (try (exfalso; omega))))) | refine zqa ?_ | refine zqb ?_ | refine zqg ?_ | refine zqu (by (simp (disch := omega) only [go_sem]); rfl) rfl ?_ | (refine J _ ?_; clear J K) | (refine zqf (fun hb => ?_) (fun hb => ?_) <;> (have hb2 := hb; try simp only [z01] at hb2) <;> ((first | have F := eq_false hb2 | have F := eq_true hb2); (simp (disch := omega) only [go_sem, Nat.reduceBEq, ↓reduceIte, F]); clear hb F; (try (exfalso; omega)))))
 ·exact z00 (by unfold z87; rw [decide_eq_false (by omega)]; rfl)
 ·rw [show z87 s = (bl s).all ink from by unfold z87; rw [decide_eq_true (by omega)]; rfl]
  (refine z3h (fun U st => ∃ (k : _), U = s.size - k /\ st.t 0 = .str s /\ st.t 3 = .int .i64 k /\ (k <= s.size) /\ (((bl s).take k).all ink = true)) ?_ ?_); rotate_left; (rintro U st ⟨k, rfl, s0, s3, sp0, sp1⟩); rotate_left
  ·(refine ⟨_, 0, rfl, ?_⟩); (simp (disch := omega) only [go_sem, Nat.reduceBEq, true_and, Int.natCast_zero])
   simp
  have hbl := z18 s
  repeat' (first | refine zqj ?_ | ((first | refine zqh fun K J => ?_ | refine zqr fun K J => ?_); (simp (disch := omega) only [go_sem, Nat.reduceBEq, ↓reduceIte, s0, s3, zdi])) | ((first | refine zqd _ rfl (fun hc => ?_) (fun hc => ?_) | refine zqm _ rfl (fun hc => ?_) (fun hc => ?_)) <;> (first | (cases hc; done) | ((try simp only [z01] at hc); (try (exfalso; omega))))) | refine zqa ?_ | refine zqb ?_ | refine zqc ?_ | refine zqk ?_ | refine zqn ?_ | refine zqv ?_ | refine zqx ?_ | refine zqy ?_ | refine zqz ?_ | refine z23 ?_ | refine zqp ?_ | refine zqo ?_ | refine zqu (by (simp (disch := omega) only [go_sem]); rfl) rfl ?_ | (refine J _ ?_; clear J K) | (refine zqf (fun hb => ?_) (fun hb => ?_) <;> (have hb2 := hb; try simp only [z01] at hb2) <;> ((first | have F := eq_false hb2 | have F := eq_true hb2); (simp (disch := omega) only [go_sem, Nat.reduceBEq, ↓reduceIte, F, s0, s3, zdi]); clear hb F; (try (exfalso; omega)))))
  ·exact z00 (z3r (k := k) (by omega) (by unfold ink; exact decide_eq_false (by omega))).symm
  ·(refine Exists.intro _ (And.intro ?_ ⟨k + 1, rfl, ?_⟩)); rotate_left; (simp (disch := omega) only [go_sem, Nat.reduceBEq, s0, s3, true_and, Int.natCast_add, Int.natCast_one]); rotate_left
   ·omega
   ·exact ⟨by omega, z2f (by omega) sp1 (by unfold ink; exact decide_eq_true (by omega))⟩
  ·exact z00 (z3r (k := k) (by omega) (by unfold ink; exact decide_eq_false (by omega))).symm
  ·exact z00 (z2l (by omega) sp1).symm
 ·exact z00 (by unfold z87; rw [decide_eq_false (by omega)]; rfl)
theorem zz3 (l : List ByteArray) (hl : l.length <= maxLen) (hs : ∀ s ∈ l, s.size <= maxLen) : PC Tryz.prog 159 [z3b l] (.bool (zfg l)) := by
 unfold maxLen at hl
 refine z1y 1 (by simp only [pureD.pureL, z31, Bool.and_self]) rfl (z1v [] Tryz.func159 rfl (by decide +kernel) z0i (by decide +kernel) (by simp [Tryz.ntmps159]) ?_)
 show awp _ _ (Code.seq _ _) _ _
 have hw := fun (i : Nat) (h : i < l.length) => zzy l[i] (hs _ (List.getElem_mem h))
 repeat' (first | refine zqj ?_ | ((refine zqh fun K J => ?_); (simp (disch := omega) only [go_sem, Nat.reduceBEq, ↓reduceIte, z3b])) | ((refine zqd _ rfl (fun hc => ?_) (fun hc => ?_)) <;> (((try simp only [z01] at hc); (try (exfalso; omega))))) | refine zqa ?_ | refine zqb ?_ | refine zqg ?_ | refine zqu (by (simp (disch := omega) only [go_sem]); rfl) rfl ?_ | (refine J _ ?_; clear J K))
 ·exact z00 (by unfold zfg; rw [decide_eq_false (by omega)]; rfl)
 ·rw [show zfg l = l.all z87 from by unfold zfg; rw [decide_eq_true (by omega)]; rfl]
  (refine z3h (fun U st => ∃ (k : _), U = l.length - k /\ st.t 0 = z3b l /\ st.t 3 = .int .i64 k /\ (k <= l.length) /\ ((l.take k).all z87 = true)) ?_ ?_); rotate_left; (rintro U st ⟨k, rfl, s0, s3, sp0, sp1⟩); rotate_left
  ·(refine ⟨_, 0, rfl, ?_⟩); (simp (disch := omega) only [go_sem, Nat.reduceBEq, true_and, Int.natCast_zero, z3b])
   simp
  repeat' (first | refine zqj ?_ | ((first | refine zqh fun K J => ?_ | refine zqr fun K J => ?_ | refine zqs (hw k (by omega)) ?_); (simp (disch := omega) only [go_sem, Nat.reduceBEq, ↓reduceIte, reduceCtorEq, Nat.reduceAdd, s0, s3, z3b])) | ((first | refine zqd _ rfl (fun hc => ?_) (fun hc => ?_) | refine zqm _ rfl (fun hc => ?_) (fun hc => ?_)) <;> (((try simp only [z01] at hc); (try (exfalso; omega))))) | refine zqa ?_ | refine zqb ?_ | refine zqc ?_ | refine zqk ?_ | refine zqn ?_ | refine zqv ?_ | refine zqx ?_ | refine zqy ?_ | refine zqz ?_ | refine z23 ?_ | refine zqp ?_ | refine zqo ?_ | refine zqu (by (simp (disch := omega) only [go_sem]); rfl) rfl ?_ | (refine J _ ?_; clear J K))
  ·exact z00 (z3r (k := k) (by omega) (by assumption)).symm
  ·(refine Exists.intro _ (And.intro ?_ ⟨k + 1, rfl, ?_⟩)); rotate_left; (simp (disch := omega) only [go_sem, Nat.reduceBEq, s0, s3, true_and, Int.natCast_add, Int.natCast_one]); rotate_left
   ·omega
   ·exact ⟨by omega, z2f (by omega) sp1 (by assumption)⟩
  ·exact z00 (z2l (by omega) sp1).symm
theorem zwf (l : List Wd) (hl : l.length <= 1000000) : PC Tryz.prog 294 [z0s l] (z3b (l.map (·.text))) := by
 refine z1y 2 (by simp only [pureD.pureL, z13, Bool.and_self]) (z31 _) (z1v [5] Tryz.func294 rfl (by decide +kernel) z0i (by decide +kernel) (by simp [Tryz.ntmps294]) ?_)
 show awp _ _ (Code.seq _ _) _ _
 repeat' (first | refine zqj ?_ | ((refine zqh fun K J => ?_); (simp (disch := omega) only [go_sem, Nat.reduceBEq, ↓reduceIte, reduceCtorEq, z0s])) | refine zqa ?_ | (refine J _ ?_; clear J K))
 (refine z3h (fun U st => ∃ (k : _), U = l.length - k /\ st.t 0 = z0s l /\ st.t 3 = .osl 0 k /\ st.t 4 = .int .i64 k /\ st.H 0 = some (.row 9 k (((l.take k).map (·.text)).map .str)) /\ (k <= l.length)) ?_ ?_); rotate_left; (rintro U st ⟨k, rfl, s0, s3, s4, sH0, sp0⟩); rotate_left
 ·(refine ⟨_, 0, rfl, ?_⟩); (simp (disch := omega) only [go_sem, Nat.reduceBEq, and_self, Int.natCast_zero, List.map_nil, z0s])
  try simp
 have htk : ∀ h : k < l.length, l.take (k + 1) = l.take k ++ [l[k]] := fun h => List.take_succ_eq_append_getElem h
 repeat' (first | refine zqj ?_ | ((first | refine zqh fun K J => ?_ | refine zqr fun K J => ?_); (simp (disch := omega) only [go_sem, Nat.reduceBEq, ↓reduceIte, reduceCtorEq, Nat.reduceAdd, Nat.reduceLeDiff, Nat.reduceLT, s0, s3, s4, sH0, z0s])) | ((refine zqd _ rfl (fun hc => ?_) (fun hc => ?_)) <;> (((try simp only [z01] at hc); (try (exfalso; omega))))) | refine zqa ?_ | refine zqb ?_ | refine zqc ?_ | refine zqn ?_ | refine zqv ?_ | refine zqy ?_ | refine zqz ?_ | refine zqp ?_ | refine zqu (by (simp (disch := omega) only [go_sem]); rfl) rfl ?_ | (refine J _ ?_; clear J K))
 ·have htk := htk (by omega)
  (refine Exists.intro _ (And.intro ?_ ⟨k + 1, rfl, ?_⟩)); rotate_left; (simp (disch := omega) only [go_sem, Nat.reduceBEq, s0, s3, s4, sH0, true_and, Int.natCast_add, Int.natCast_one, List.map_append, List.map_cons, List.map_nil, htk]); rotate_left
  ·omega
  ·omega
 ·have O : k = l.length := by omega
  subst O
  rw [List.take_length] at sH0
  have h2 : l.length = ((l.map (·.text))).length := by simp
  rw [h2] at sH0 ⊢
  exact z6u (ziu 0 sH0 z6o z83 (by simp) (zh6 _))
theorem zrk (l : List Wd) (hl : l.length <= 1000000) (hs : ∀ w ∈ l, w.text.size <= maxLen) : PC Tryz.prog 237 [z0s l] (.bool (zl7 l)) := by
 refine z1y 1 (by simp only [pureD.pureL, z13, Bool.and_self]) rfl (z1v [] Tryz.func237 rfl (by decide +kernel) z0i (by decide +kernel) (by simp [Tryz.ntmps237]) ?_)
 show awp _ _ (Code.seq _ _) _ _
 have h1 := zwf l hl
 have h2 := zz3 (l.map (·.text)) (by unfold maxLen; simp; omega) (fun s hs' => by obtain ⟨w, hw, rfl⟩ := List.mem_map.1 hs'; exact hs w hw)
 rw [zwe]
 simp only [z3b, List.map_map] at h1 h2
 repeat' (first | ((first | refine zqh fun K J => ?_ | refine zqs (h1) ?_ | refine zqs (h2) ?_); (simp (disch := omega) only [go_sem, Nat.reduceBEq, ↓reduceIte, z0s])) | refine zqn ?_ | refine zqu (by (simp (disch := omega) only [go_sem]); rfl) rfl ?_ | (refine J _ ?_; clear J K) | (refine zqf (fun hb => ?_) (fun hb => ?_) <;> (have hb2 := hb; try simp only [z01] at hb2) <;> ((first | have F := eq_false hb2 | have F := eq_true hb2); (simp (disch := omega) only [go_sem, Nat.reduceBEq, ↓reduceIte, F]); clear hb F; (try (exfalso; omega)))))
 ·exact z00 (by rw [decide_eq_true (by omega)]; rfl)
 ·exact z00 (by rw [decide_eq_false (by omega)]; rfl)
theorem zd5 (s : ByteArray) (hs : s.size <= maxLen) : PC Tryz.prog 83 [.str s] (.bool (z3c s)) := by
 unfold maxLen at hs
 refine z1y 1 (by simp only [pureD.pureL, pureD, Bool.and_self]) rfl (z1v [] Tryz.func83 rfl (by decide +kernel) z0i (by decide +kernel) (by simp [Tryz.ntmps83]) ?_)
 show awp _ _ (Code.seq _ _) _ _
 have h1 := zrj s hs
 have hn := zbf s
 have hbl := z18 s
 have hz : Int.toNat 0 = 0 := rfl
 have hne : ∀ h : 0 < s.size, (bl s)[0].toNat = ((bl s).headD 0).toNat := fun h => congrArg UInt8.toNat (zo1 h)
 repeat' (first | refine zqj ?_ | ((first | refine zqh fun K J => ?_ | refine zqs (h1) ?_); (simp (disch := omega) only [go_sem, Nat.reduceBEq, ↓reduceIte])) | ((refine zqd _ rfl (fun hc => ?_) (fun hc => ?_)) <;> (first | (cases hc; done) | ((try simp only [z01] at hc); (try (exfalso; omega))))) | refine zqa ?_ | refine zqb ?_ | refine zqg ?_ | refine zqu (by (simp (disch := omega) only [go_sem]); rfl) rfl ?_ | (refine J _ ?_; clear J K) | (refine zqf (fun hb => ?_) (fun hb => ?_) <;> (have hb2 := hb; try simp only [z01] at hb2) <;> ((first | have F := eq_false hb2 | have F := eq_true hb2); (simp (disch := omega) only [go_sem, Nat.reduceBEq, ↓reduceIte, Int.reduceLE, F, zdi, hz]); clear hb F; (try (exfalso; omega)))))
 ·exact z00 (by unfold z3c; rw [decide_eq_false (by omega)]; rfl)
 ·have hf := hne (by omega)
  rw [show z3c s = ((bl s).drop (z8a s)).all cap from by unfold z3c; rw [decide_eq_true (by omega)]; rfl]
  (refine z3h (fun U st => ∃ (k : _), U = s.size - k /\ st.t 0 = .str s /\ st.t 4 = .int .i64 k /\ (z8a s <= k) /\ (k <= s.size) /\ ((((bl s).drop (z8a s)).take (k - z8a s)).all cap = true)) ?_ ?_); rotate_left; (rintro U st ⟨k, rfl, s0, s4, sp0, sp1, sp2⟩); rotate_left
  ·(refine ⟨_, z8a s, rfl, ?_⟩); (simp (disch := omega) only [go_sem, Nat.reduceBEq, true_and])
   exact ⟨Nat.le_refl _, by omega, by rw [Nat.sub_self]; rfl⟩
  have O : ∀ h : k < s.size, ((bl s).drop (z8a s))[k - z8a s]'(by rw [List.length_drop, z18]; omega) = (bl s)[k]'h := fun h => by
   rw [List.getElem_drop]; congr 1; omega
  have hl : ((bl s).drop (z8a s)).length = s.size - z8a s := by rw [List.length_drop, z18]
  repeat' (first | refine zqj ?_ | ((first | refine zqh fun K J => ?_ | refine zqr fun K J => ?_); (simp (disch := omega) only [go_sem, Nat.reduceBEq, ↓reduceIte, s0, s4, zdi])) | ((first | refine zqd _ rfl (fun hc => ?_) (fun hc => ?_) | refine zqm _ rfl (fun hc => ?_) (fun hc => ?_)) <;> (first | (cases hc; done) | ((try simp only [z01] at hc); (try (exfalso; omega))))) | refine zqa ?_ | refine zqb ?_ | refine zqc ?_ | refine zqk ?_ | refine zqn ?_ | refine zqv ?_ | refine zqx ?_ | refine zqy ?_ | refine zqz ?_ | refine z23 ?_ | refine zqp ?_ | refine zqo ?_ | refine zqu (by (simp (disch := omega) only [go_sem]); rfl) rfl ?_ | (refine J _ ?_; clear J K) | (refine zqf (fun hb => ?_) (fun hb => ?_) <;> (have hb2 := hb; try simp only [z01] at hb2) <;> ((first | have F := eq_false hb2 | have F := eq_true hb2); (simp (disch := omega) only [go_sem, Nat.reduceBEq, ↓reduceIte, F, s0, s4, zdi]); clear hb F; (try (exfalso; omega)))))
  ·exact z00 (z3r (k := k - z8a s) (by omega) (by rw [O (by omega)]; unfold cap; exact decide_eq_false (by omega))).symm
  ·(refine Exists.intro _ (And.intro ?_ ⟨k + 1, rfl, ?_⟩)); rotate_left; (simp (disch := omega) only [go_sem, Nat.reduceBEq, s0, s4, true_and, Int.natCast_add, Int.natCast_one]); rotate_left
   ·omega
   ·refine ⟨by omega, by omega, ?_⟩
    rw [show k + 1 - z8a s = k - z8a s + 1 from by omega]
    exact z2f (by omega) sp2 (by rw [O (by omega)]; unfold cap; exact decide_eq_true (by omega))
  ·exact z00 (z3r (k := k - z8a s) (by omega) (by rw [O (by omega)]; unfold cap; exact decide_eq_false (by omega))).symm
  ·exact z00 (z2l (k := k - z8a s) (by omega) sp2).symm
 ·have hf := hne (by omega)
  exact z00 (by unfold z3c; rw [decide_eq_false (by omega)]; rfl)
 ·exact z00 (by unfold z3c; rw [decide_eq_false (by omega)]; rfl)
 ·exact z00 (by unfold z3c; rw [decide_eq_false (by omega)]; rfl)
end
section
open Abs Facts Tr
attribute [local irreducible] awp
namespace Tr
def z0d (t : T) : List T := zec (fun t l => t :: l.flatten) t
theorem z20 (t : T) : z0d t = t :: t.kids.flatMap z0d := by
 unfold z0d; rw [z39, List.flatMap]
theorem z1j (t : T) : t ∈ z0d t := by rw [z20]; exact List.mem_cons_self
theorem z2k {t k x : T} (O : k ∈ t.kids) (hx : x ∈ z0d k) : x ∈ z0d t := by
 rw [z20]; exact List.mem_cons_of_mem _ (List.mem_flatMap.2 ⟨k, O, hx⟩)
variable {σ : Type}
def zbe (step : T -> σ -> Bool × σ) : List T -> σ -> Bool × σ
 | [], s => (true, s)
 | x :: l, s => if (step x s).1 = true then zbe step l (step x s).2 else (false, (step x s).2)
theorem za3 (step : T -> σ -> Bool × σ) : ∀ (a b : List T) (s : σ), zbe step (a ++ b) s = if (zbe step a s).1 = true then zbe step b (zbe step a s).2 else zbe step a s
 | [], b, s => by simp [zbe]
 | x :: a, b, s => by
  simp only [List.cons_append, zbe]
  split
  ·exact za3 step a b _
  ·simp
theorem zu5 (step : T -> σ -> Bool × σ) {a b : List T} {s : σ} (h : (zbe step a s).1 = false) : zbe step (a ++ b) s = zbe step a s := by
 rw [za3, h]; simp
theorem zu6 (step : T -> σ -> Bool × σ) (m : σ -> Nat) (hm : ∀ x s, m (step x s).2 <= m s + 1) : ∀ (l : List T) (s : σ), m (zbe step l s).2 <= m s + l.length
 | [], s => by simp [zbe]
 | x :: l, s => by
  have h1 := hm x s
  simp only [zbe, List.length_cons]
  split
  ·have := zu6 step m hm l (step x s).2
   omega
  ·simp only; omega
theorem zxt (step : T -> σ -> Bool × σ) {f : T -> List T} {l : List T} {i : Nat} {s s2 : σ} (h : i < l.length) (hq : zbe step ((l.take i).flatMap f) s = (true, s2)) :
  zbe step ((l.take (i + 1)).flatMap f) s = zbe step (f l[i]) s2 := by
 rw [List.take_succ_eq_append_getElem h, List.flatMap_append, za3, hq]
 simp
theorem zu7 (step : T -> σ -> Bool × σ) {f : T -> List T} {l : List T} {i : Nat} {s s2 : σ} (hq : zbe step ((l.take i).flatMap f) s = (false, s2)) : zbe step (l.flatMap f) s = (false, s2) := by
 have : l.flatMap f = (l.take i).flatMap f ++ (l.drop i).flatMap f := by rw [<- List.flatMap_append, List.take_append_drop]
 rw [this, zu5 _ (by rw [hq]), hq]
end Tr
theorem zu8 {σ : Type} {g : FuncId} {cap : List D} {lo : Nat} {I : σ -> HM -> Prop} (step : T -> σ -> Bool × σ) (hI : Low lo I) (m : σ -> Nat) (M : Nat) (hm : ∀ x s, m (step x s).2 <= m s + 1) :
  ∀ u : T, fitB u = true -> (∀ x ∈ z0d u, ∀ s, m s < M -> Eff Tryz.prog g (z25 x :: cap) lo I s (step x s).2 (.bool (step x s).1)) ->
  ∀ s, m s + (z0d u).length <= M -> Eff Tryz.prog 63 [z25 u, .fn g cap] lo I s (zbe step (z0d u) s).2 (.bool (zbe step (z0d u) s).1) := by
 refine z55 fun u ih hfit hv s hM => ?_
 obtain ⟨h1, h2, h3, h4⟩ := (z9x u).1 hfit
 have ih := fun k O => ih k O (h4 k O) (fun x hx => hv x (z2k O hx))
 have hlen : (z0d u).length = 1 + (u.kids.flatMap z0d).length := by rw [z20, List.length_cons, Nat.add_comm]
 have hv := hv u (z1j u) s (by omega)
 have hm1 := hm u s
 unfold maxLen at h3
 have hrun : zbe step (z0d u) s = if (step u s).1 = true then zbe step (u.kids.flatMap z0d) (step u s).2 else (false, (step u s).2) := by rw [z20]; rfl
 rw [hrun]; clear hrun
 generalize step u s = p1 at hv hm1 ⊢
 obtain ⟨b1, s1⟩ := p1
 simp only at hv hm1 ⊢
 refine zas hI rfl fun H nx hlo hs => ?_
 refine (z1v [] Tryz.func63 rfl (by decide +kernel) z0i (by decide +kernel) (by simp [Tryz.ntmps63]) ?_)
 show awp _ _ (Code.seq _ _) _ _
 repeat' (first | refine zqj ?_ | ((refine zqh fun K J => ?_); (simp (disch := omega) only [go_sem, Nat.reduceBEq, ↓reduceIte, Nat.reduceAdd, Nat.reduceLeDiff])) | (refine J _ ?_; clear J K))
 refine z6w hv (by show lo <= nx + 1; omega) (hI.loc s H _ (fun id hid => z57 (by omega)) hs) fun H1 hs1 hH1 => ?_
 have hb1 : H1 nx = some (.box 27 (z07 u)) := (hH1 nx hlo).trans zsn
 have hk1 : ∀ id, lo <= id -> id < nx -> H1 id = H id := fun id h1 h2 => (hH1 id h1).trans (z57 (by omega))
 clear hH1
 (try (simp (disch := omega) only [go_sem, Nat.reduceBEq])); repeat' (first | refine zqj ?_ | ((refine zqh fun K J => ?_); (simp (disch := omega) only [go_sem, Nat.reduceBEq, ↓reduceIte, reduceCtorEq, Nat.reduceAdd, hb1])) | ((refine zqd _ rfl (fun hc => ?_) (fun hc => ?_)) <;> (((try simp only [z01] at hc); (try (exfalso; omega))))) | refine zqa ?_ | refine zqb ?_ | refine zqg ?_ | refine zqu (by (simp (disch := omega) only [go_sem]); rfl) rfl ?_ | (refine J _ ?_; clear J K))
 ·subst hc
  (simp (disch := omega) only [go_sem, Nat.reduceBEq, ↓reduceIte])
  exact ⟨hs1, hk1⟩
 ·subst hc
  simp only [if_true]
  (refine z3h (fun U st => ∃ (i : _) (si : _), U = u.kids.length - i /\ st.t 1 = .fn g cap /\ st.t 12 = z10 u.kids /\ st.t 13 = .int .i64 u.kids.length /\ st.t 14 = .int .i64 i /\ (i <= u.kids.length) /\ (nx < st.nx) /\ (I si st.H) /\ (zbe step ((u.kids.take i).flatMap z0d) s1 = (true, si)) /\ (∀ id, lo <= id -> id < nx -> st.H id = H id)) ?_ ?_); rotate_left; (rintro U st ⟨i, si, rfl, q1, q12, q13, q14, qp0, qp1, qp2, qp3, qp4⟩); rotate_left
  ·(refine ⟨_, 0, s1, rfl, ?_⟩); (simp (disch := omega) only [go_sem, Nat.reduceBEq, true_and, Int.natCast_zero, List.flatMap_nil, z10])
   exact ⟨by omega, hs1, rfl, hk1⟩
  have ih := fun (h : i < u.kids.length) => ih u.kids[i] (List.getElem_mem h) si
  repeat' (first | ((refine zqh fun K J => ?_); (simp (disch := omega) only [go_sem, Nat.reduceBEq, ↓reduceIte, reduceCtorEq, Nat.reduceAdd, Nat.reduceLeDiff, q1, q12, q13, q14, z10])) | ((refine zqd _ rfl (fun hc => ?_) (fun hc => ?_)) <;> (((try simp only [z01] at hc); (try (exfalso; omega))))) | refine zqa ?_ | refine zqb ?_ | refine zqc ?_ | refine zqn ?_ | refine zqv ?_ | refine zqz ?_ | refine zqp ?_ | refine zqu (by (simp (disch := omega) only [go_sem]); rfl) rfl ?_ | (refine J _ ?_; clear J K))
  ·have hi : i < u.kids.length := by omega
   obtain ⟨b2, s2, e2⟩ : ∃ b2 s2, zbe step (z0d u.kids[i]) si = (b2, s2) := ⟨_, _, rfl⟩
   have ih := ih hi (by
    have h1 := zu6 step m hm ((u.kids.take i).flatMap z0d) s1
    rw [qp3] at h1
    have h2 : (u.kids.flatMap z0d).length = ((u.kids.take i).flatMap z0d).length + ((z0d u.kids[i]).length + ((u.kids.drop (i + 1)).flatMap z0d).length) := by
     rw [<- List.length_append, <- List.flatMap_cons, List.getElem_cons_drop, <- List.length_append, <- List.flatMap_append, List.take_append_drop]
    simp only at h1
    omega)
   rw [e2] at ih
   have hrun := (zxt step hi qp3).trans e2
   refine z6w ih (by show lo <= st.nx + 1; omega) (hI.loc si st.H _ (fun id hid => (z57 (by omega)).trans (z57 (by omega))) qp2) fun H2 hs2 hH2 => ?_
   have hk2 : ∀ id, lo <= id -> id < nx -> H2 id = H id := fun id h1 h2 => ((hH2 id h1).trans ((z57 (by omega)).trans (z57 (by omega)))).trans (qp4 id h1 h2)
   clear hH2
   (try (simp (disch := omega) only [go_sem, Nat.reduceBEq])); repeat' (first | ((first | refine zqh fun K J => ?_ | refine zqr fun K J => ?_); (simp (disch := omega) only [go_sem, Nat.reduceBEq, ↓reduceIte, q14])) | ((refine zqm _ rfl (fun hc => ?_) (fun hc => ?_)) <;> (((try simp only [z01] at hc); (try (exfalso; omega))))) | refine zqk ?_ | refine zqn ?_ | refine zqv ?_ | refine zqx ?_ | refine zqy ?_ | refine z23 ?_ | refine zqo ?_ | refine zqu (by (simp (disch := omega) only [go_sem]); rfl) rfl ?_ | (refine J _ ?_; clear J K))
   ·subst hc
    (simp (disch := omega) only [go_sem, Nat.reduceBEq])
    rw [zu7 step hrun]
    exact ⟨rfl, hs2, hk2⟩
   ·subst hc
    (refine Exists.intro _ (And.intro ?_ ⟨i + 1, s2, rfl, ?_⟩)); rotate_left; (simp (disch := omega) only [go_sem, Nat.reduceBEq, q1, q12, q13, q14, true_and, Int.natCast_add, Int.natCast_one, hrun]); rotate_left
    ·omega
    ·exact ⟨by omega, hs2, hk2⟩
  ·have : u.kids.take i = u.kids := List.take_of_length_le (by omega)
   rw [this] at qp3
   rw [qp3]
   (simp (disch := omega) only [go_sem, Nat.reduceBEq])
   exact ⟨qp2, qp4⟩
namespace Tr
def cntT (t : T) : Nat := (z0d t).length
def z0e (t : T) : List Idv := (z0d t).map T.id
theorem znj : ∀ (l : List T) (a : List Idv), zbe (fun x a => (true, a ++ [x.id])) l a = (true, a ++ l.map T.id)
 | [], a => by simp [zbe]
 | x :: l, a => by simp [zbe, znj l]
end Tr
def zls (u : T) (l : List Idv) : List HObj := [.box 27 (z07 u), .box 59 [.osl 2 l.length], .row 23 l.length (l.flatMap z08)]
theorem zgb (n : Nat) (u : T) : lowD.lowL n (z07 u) = true := z3e n _ (z1d u)
theorem low_I (u : T) : Low 3 fun l H => ∀ j, j < 3 -> H j = (zls u l)[j]? := zn5 (zls u) (fun _ => rfl) fun l o ho => by
 simp only [zls, List.mem_cons, List.not_mem_nil, or_false] at ho
 rcases ho with rfl | rfl | rfl
 ·exact zgb _ _
 ·rfl
 ·exact z3e _ _ (z2m (fun _ => rfl) l)
theorem zxu (u x : T) (l : List Idv) (hl : l.length < 5000000000000) : Eff Tryz.prog 64 [z25 x, .ptr 1 0] 3 (fun l H => ∀ j, j < 3 -> H j = (zls u l)[j]?) l (l ++ [x.id]) (.bool true) := by
 refine zas (low_I u) rfl fun H nx hlo hs => ?_
 have h1 : H 1 = some (.box 59 [.osl 2 l.length]) := hs 1 (by omega)
 have h0 : H 0 = some (.box 27 (z07 u)) := hs 0 (by omega)
 have h2 : H 2 = some (.row 23 l.length (l.flatMap z08)) := hs 2 (by omega)
 have hne : (1 == nx) = false := by simp; omega
 have hne' : (0 == nx) = false := by simp; omega
 have hne2 : (2 == nx) = false := by simp; omega
 refine (z1v [] Tryz.func64 rfl (by decide +kernel) z0i (by decide +kernel) (by simp [Tryz.ntmps64]) ?_)
 show awp _ _ (Code.seq _ _) _ _
 repeat' (first | ((refine zqh fun K J => ?_); (simp (disch := omega) only [go_sem, Nat.reduceBEq, ↓reduceIte, reduceCtorEq, Nat.reduceAdd, Nat.reduceMul, Nat.reduceLeDiff, Nat.reduceLT, h1, h2, hne, hne2])) | refine zqn ?_ | refine zqu (by (simp (disch := omega) only [go_sem]); rfl) rfl ?_ | (refine J _ ?_; clear J K))
 (simp (disch := omega) only [go_sem, Nat.reduceBEq])
 refine ⟨fun j hj => ?_, fun id h1 h2 => ?_⟩
 ·match j, hj with
  | 0, _ => simp [hne', h0, zls]
  | 1, _ => simp [zls]
  | 2, _ => simp [zls, z08]
 ·rw [show (id == 1) = false from by simp; omega, show (id == 2) = false from by simp; omega, show (id == nx) = false from by simp; omega]; rfl
theorem zu9 (u : T) (hfit : fitB u = true) (hs : cntT u <= 5000000000000) : PC Tryz.prog 19 [z25 u] (z0o (z0e u)) := by
 refine z1y 2 (by simp only [pureD.pureL, z05, Bool.and_self]) (z7g _) (z1v [] Tryz.func19 rfl (by decide +kernel) z0i (by decide +kernel) (by simp [Tryz.ntmps19]) ?_)
 show awp _ _ (Code.seq _ _) _ _
 (refine zqh fun K J => ?_); (simp only [go_sem, ↓reduceIte]); (refine J _ ?_); (clear J K)
 refine z3g fun K J => ?_
 (simp (disch := omega) only [go_sem, Nat.reduceAdd])
 refine J _ _ (zj2 (b := 1) (e := 59) 23 (by (simp (disch := omega) only [go_sem, Nat.reduceBEq]))) ?_
 clear J K
 repeat' (((refine zqh fun K J => ?_); (simp (disch := omega) only [go_sem, Nat.reduceBEq, ↓reduceIte, Nat.reduceAdd, Nat.reduceLeDiff])))
 have h := zu8 (fun x l => (true, l ++ [x.id])) (low_I u) List.length (z0d u).length (fun x l => by simp) u hfit (fun x _ l hl => zxu u x l (by unfold cntT at hs; omega)) [] (by simp)
 rw [znj] at h
 refine z6w h (Nat.le_refl _) (fun j hj => ?_) fun H1 hs1 _ => ?_
 ·match j, hj with
  | 0, _ => rfl
  | 1, _ => rfl
  | 2, _ => rfl
 ·have h1 : H1 1 = some (.box 59 [.osl 2 (z0e u).length]) := hs1 1 (by omega)
  have h2 : H1 2 = some (.row 23 (z0e u).length ((z0e u).flatMap z08)) := hs1 2 (by omega)
  (try (simp (disch := omega) only [go_sem])); repeat' (first | ((refine zqh fun K J => ?_); (simp (disch := omega) only [go_sem, Nat.reduceBEq, ↓reduceIte, Nat.reduceAdd, h1])) | refine zqn ?_ | refine zqu (by (simp (disch := omega) only [go_sem]); rfl) rfl ?_ | (refine J _ ?_; clear J K))
  refine z6u ?_
  exact z2w 0 h2 z7n zbw (fun _ => rfl) (fun _ => rfl)
end
section
open Abs Facts Tr
attribute [local irreducible] awp
namespace Tr
def z82 (p : Int -> Bool) (s : ByteArray) : Nat := ((bl s).takeWhile fun b => !p b.toNat).length
theorem zjq {p : Int -> Bool} {s : ByteArray} {k : Nat} (O : k <= s.size) (h1 : ∀ j, (hj : j < k) -> p ((bl s)[j]'(by rw [z18]; omega)).toNat = false) (h2 : ∀ h : k < s.size, p ((bl s)[k]'h).toNat = true) : z82 p s = k := by
 unfold z82
 refine z5g (by rw [z18]; exact O) (fun j hj => by rw [h1 j hj]; rfl) (fun h => by rw [h2 h]; rfl)
end Tr
theorem zua {s : ByteArray} {i : Nat} (h : i < s.size) (hb : ((bl s)[i]'h).toNat < 128) : Utf8.decode s i = (((bl s)[i]'h).toNat, 1) := decode_ascii s i h hb
theorem zub {s : ByteArray} {i : Nat} (h : i < s.size) (hb : 128 <= ((bl s)[i]'h).toNat) : 128 <= (Utf8.decode s i).1 := (decode_high s i h hb).1
theorem zjr (s : ByteArray) (hs : s.size <= maxLen) {g : FuncId} {cap : List D} (p : Int -> Bool) (hc : pureD.pureL cap = true)
  (hp : ∀ r : Nat, r <= 2147483647 -> PC Tryz.prog g (.int .i32 r :: cap) (.bool (p r))) (hbig : ∀ r : Nat, 128 <= r -> p r = true) :
  PC Tryz.prog 321 [.str s, .fn g cap, .bool true] (.int .i64 (if z82 p s < s.size then (z82 p s : Int) else -1)) := by
 unfold maxLen at hs
 refine z1y 1 (by simp only [pureD.pureL, pureD, hc, Bool.and_self]) rfl (z1v [] Tryz.func321 rfl (by decide +kernel) z0i (by decide +kernel) (by simp [Tryz.ntmps321]) ?_)
 show awp _ _ (Code.seq _ _) _ _
 repeat' (first | refine zqj ?_ | ((refine zqh fun K J => ?_); (simp (disch := omega) only [go_sem, Nat.reduceBEq, ↓reduceIte])) | refine zqa ?_ | (refine J _ ?_; clear J K))
 have hdp : ∀ i (h : i < s.size), p (Utf8.decode s i).1 = p ((bl s)[i]'h).toNat /\ (p ((bl s)[i]'h).toNat = false -> (Utf8.decode s i).2 = 1) := fun i h => by
  rcases Nat.lt_or_ge ((bl s)[i]'h).toNat 128 with hb | hb
  ·rw [zua h hb]; exact ⟨rfl, fun _ => rfl⟩
  ·rw [hbig _ (zub h hb), hbig _ hb]; exact ⟨rfl, fun h => by cases h⟩
 (refine z3h (fun U st => ∃ (i : _), U = s.size - i /\ st.t 1 = .fn g cap /\ st.t 2 = .bool true /\ st.t 10 = .it 0 /\ st.H 0 = some (.raw (.stringIter s i)) /\ (i <= s.size) /\ (∀ j, (hj : j < i) -> (h : j < (bl s).length) -> p (bl s)[j].toNat = false) /\ (1 <= st.nx)) ?_ ?_); rotate_left; (rintro U st ⟨i, rfl, q1, q2, q10, qH0, qp0, qp1, qp2⟩); rotate_left
 ·(refine ⟨_, 0, rfl, ?_⟩); (simp (disch := omega) only [go_sem, Nat.reduceBEq, Nat.reduceLeDiff, true_and, and_true])
  intro j hj; omega
 by_cases hi : i < s.size
 ·have hp := hp (Utf8.decode s i).1 (decode_le s i)
  obtain ⟨hd1, hd2⟩ := hdp i hi
  repeat' (first | ((first | refine zqh fun K J => ?_ | refine zqs (hp) ?_); (simp (disch := omega) only [go_sem, Nat.reduceBEq, ↓reduceIte, q1, q2, q10, qH0, hi])) | ((first | refine zqd _ rfl (fun hc => ?_) (fun hc => ?_) | refine zqm _ rfl (fun hc => ?_) (fun hc => ?_)) <;> (first | (cases hc; done) | ((try simp only [] at hc); (try (exfalso; omega))))) | refine zqi ?_ | refine zqb ?_ | refine zqk ?_ | refine zqn ?_ | refine zqx ?_ | refine zqy ?_ | refine z23 ?_ | refine zqo ?_ | refine zqu (by (simp (disch := omega) only [go_sem]); rfl) rfl ?_ | (refine J _ ?_; clear J K))
  ·refine z56 ?_
   rw [zjq (k := i) (by omega) (fun j hj => qp1 j hj (by rw [z18]; omega)) (fun h => by rw [<- hd1]; assumption), if_pos hi]
  ·have hd1 := hd1.symm.trans (by assumption)
   have hd2 := hd2 hd1
   (refine Exists.intro _ (And.intro ?_ ⟨i + 1, rfl, ?_⟩)); rotate_left; (simp (disch := omega) only [go_sem, Nat.reduceBEq, q1, q2, q10, qH0, true_and, hd2]); rotate_left
   ·omega
   ·refine ⟨by omega, fun j hj h => ?_, by omega⟩
    by_cases e : j = i
    ·subst e; exact hd1
    ·exact qp1 j (by omega) h
 ·repeat' (first | ((refine zqh fun K J => ?_); (simp (disch := omega) only [go_sem, ↓reduceIte, q10, qH0, hi])) | ((refine zqd _ rfl (fun hc => ?_) (fun hc => ?_)) <;> (first | (cases hc; done) | ((try simp only [] at hc); (try (exfalso; omega))))) | refine zqc ?_ | refine zqn ?_ | refine zqv ?_ | refine zqz ?_ | refine zqp ?_ | refine zqu (by (simp (disch := omega) only [go_sem]); rfl) rfl ?_ | (refine J _ ?_; clear J K))
  refine z56 ?_
  have hi2 : i = s.size := by omega
  subst hi2
  rw [zjq (k := s.size) (by omega) (fun j hj => qp1 j hj (by rw [z18]; omega)) (fun h => by omega), if_neg (by omega)]
theorem zce (s : ByteArray) (hs : s.size <= maxLen) {g : FuncId} {cap : List D} (p : Int -> Bool) (hc : pureD.pureL cap = true)
  (hp : ∀ r : Nat, r <= 2147483647 -> PC Tryz.prog g (.int .i32 r :: cap) (.bool (p r))) (hbig : ∀ r : Nat, 128 <= r -> p r = true) :
  PC Tryz.prog 301 [.str s, .fn g cap] (.int .i64 (if z82 p s < s.size then (z82 p s : Int) else -1)) := by
 have h := zjr s hs p hc hp hbig
 refine z1y 1 (by simp only [pureD.pureL, pureD, hc, Bool.and_self]) rfl (z1v [] Tryz.func301 rfl (by decide +kernel) z0i (by decide +kernel) (by simp [Tryz.ntmps301]) ?_)
 show awp _ _ (Code.seq _ _) _ _
 repeat' (first | ((first | refine zqh fun K J => ?_ | refine zqs (h) ?_); (simp (disch := omega) only [go_sem, Nat.reduceBEq])) | refine zqn ?_ | refine zqu (by (simp (disch := omega) only [go_sem]); rfl) rfl ?_ | (refine J _ ?_; clear J K))
 exact z56 rfl
theorem zcz (s : ByteArray) (hs : s.size <= maxLen) {g : FuncId} {cap : List D} (p : Int -> Bool) (hc : pureD.pureL cap = true)
  (hp : ∀ r : Nat, r <= 2147483647 -> PC Tryz.prog g (.int .i32 r :: cap) (.bool (p r))) (hbig : ∀ r : Nat, 128 <= r -> p r = true) :
  PC Tryz.prog 271 [.str s, .fn g cap] (.bool (decide (z82 p s < s.size))) := by
 have h := zce s hs p hc hp hbig
 refine z1y 1 (by simp only [pureD.pureL, pureD, hc, Bool.and_self]) rfl (z1v [] Tryz.func271 rfl (by decide +kernel) z0i (by decide +kernel) (by simp [Tryz.ntmps271]) ?_)
 show awp _ _ (Code.seq _ _) _ _
 repeat' (first | ((first | refine zqh fun K J => ?_ | refine zqs (h) ?_); (simp (disch := omega) only [go_sem, Nat.reduceBEq, ↓reduceIte])) | refine zqn ?_ | refine zqu (by (simp (disch := omega) only [go_sem]); rfl) rfl ?_ | (refine J _ ?_; clear J K))
 refine z00 ?_
 by_cases h : z82 p s < s.size
 ·rw [if_pos h]; simp [h]
 ·rw [if_neg h]; simp [h]
def zcf (r : Int) : Bool := decide (r < 48) || decide (57 < r)
def zax (r : Int) : Bool := decide (r < 65) || decide (90 < r)
theorem zph (r : Nat) : PC Tryz.prog 302 [.int .i32 r] (.bool (zcf r)) := by
 refine z1y 1 (by simp only [pureD.pureL, pureD, Bool.and_self]) rfl (z1v [] Tryz.func302 rfl (by decide +kernel) z0i (by decide +kernel) (by simp [Tryz.ntmps302]) ?_)
 show awp _ _ (Code.seq _ _) _ _
 repeat' (first | ((refine zqh fun K J => ?_); (simp (disch := omega) only [go_sem, Nat.reduceBEq, ↓reduceIte])) | refine zqn ?_ | refine zqu (by (simp (disch := omega) only [go_sem]); rfl) rfl ?_ | (refine J _ ?_; clear J K) | (refine zqf (fun hb => ?_) (fun hb => ?_) <;> (have hb2 := hb; try simp only [z01] at hb2) <;> ((first | have F := eq_false hb2 | have F := eq_true hb2); (simp (disch := omega) only [go_sem, Nat.reduceBEq, ↓reduceIte, F]); clear hb F; (try (exfalso; omega)))))
 ·exact z00 (by unfold zcf; rw [decide_eq_false (show ¬ (r : Int) < 48 by assumption)]; rfl)
 ·exact z00 (by unfold zcf; rw [decide_eq_true (show (r : Int) < 48 by assumption)]; rfl)
theorem zuc (r : Nat) : PC Tryz.prog 270 [.int .i32 r] (.bool (zax r)) := by
 refine z1y 1 (by simp only [pureD.pureL, pureD, Bool.and_self]) rfl (z1v [] Tryz.func270 rfl (by decide +kernel) z0i (by decide +kernel) (by simp [Tryz.ntmps270]) ?_)
 show awp _ _ (Code.seq _ _) _ _
 repeat' (first | ((refine zqh fun K J => ?_); (simp (disch := omega) only [go_sem, Nat.reduceBEq, ↓reduceIte])) | refine zqn ?_ | refine zqu (by (simp (disch := omega) only [go_sem]); rfl) rfl ?_ | (refine J _ ?_; clear J K) | (refine zqf (fun hb => ?_) (fun hb => ?_) <;> (have hb2 := hb; try simp only [z01] at hb2) <;> ((first | have F := eq_false hb2 | have F := eq_true hb2); (simp (disch := omega) only [go_sem, Nat.reduceBEq, ↓reduceIte, F]); clear hb F; (try (exfalso; omega)))))
 ·exact z00 (by unfold zax; rw [decide_eq_false (show ¬ (r : Int) < 65 by assumption)]; rfl)
 ·exact z00 (by unfold zax; rw [decide_eq_true (show (r : Int) < 65 by assumption)]; rfl)
def zjs (s : ByteArray) : ByteArray := if z8a s < s.size then s.extract 0 (z8a s) else s
def zpi (s : ByteArray) : ByteArray := if z8a s < s.size then s.extract (z8a s) s.size else ByteArray.empty
theorem zgc (s : ByteArray) (a b : Nat) : bl (s.extract a b) = ((bl s).take b).drop a := by
 unfold bl
 rw [ByteArray.data_extract, Array.toList_extract, List.extract]
 rw [List.drop_take]
theorem znk (s : ByteArray) : bl (zjs s) = (bl s).take (z8a s) := by
 unfold zjs
 have := zbf s
 split
 ·rw [zgc, List.drop_zero]
 ·rw [List.take_of_length_le (by rw [z18]; omega)]
theorem znl (s : ByteArray) : bl (zpi s) = (bl s).drop (z8a s) := by
 unfold zpi
 have := zbf s
 split
 ·rw [zgc, List.take_of_length_le (by rw [z18]; omega)]
 ·rw [List.drop_eq_nil_of_le (by rw [z18]; omega)]; rfl
theorem zpj (s : ByteArray) : (zjs s).size = z8a s := by
 have := zbf s
 rw [<- z18, znk, List.length_take, z18]; omega
theorem zpk (s : ByteArray) : (zpi s).size = s.size - z8a s := by rw [<- z18, znl, List.length_drop, z18]
theorem zpl : (fun b : UInt8 => !zcf b.toNat) = dig := by
 funext b
 unfold zcf dig
 rcases Nat.lt_or_ge b.toNat 48 with h | h
 ·rw [decide_eq_true (show (b.toNat : Int) < 48 by omega), decide_eq_false (show ¬ (48 <= b.toNat /\ b.toNat <= 57) by omega)]; rfl
 ·rw [decide_eq_false (show ¬ (b.toNat : Int) < 48 by omega)]
  rcases Nat.lt_or_ge 57 b.toNat with h2 | h2
  ·rw [decide_eq_true (show (57 : Int) < b.toNat by omega), decide_eq_false (show ¬ (48 <= b.toNat /\ b.toNat <= 57) by omega)]; rfl
  ·rw [decide_eq_false (show ¬ (57 : Int) < b.toNat by omega), decide_eq_true (show 48 <= b.toNat /\ b.toNat <= 57 by omega)]; rfl
theorem zgd : (fun b : UInt8 => !zax b.toNat) = cap := by
 funext b
 unfold zax cap
 rcases Nat.lt_or_ge b.toNat 65 with h | h
 ·rw [decide_eq_true (show (b.toNat : Int) < 65 by omega), decide_eq_false (show ¬ (65 <= b.toNat /\ b.toNat <= 90) by omega)]; rfl
 ·rw [decide_eq_false (show ¬ (b.toNat : Int) < 65 by omega)]
  rcases Nat.lt_or_ge 90 b.toNat with h2 | h2
  ·rw [decide_eq_true (show (90 : Int) < b.toNat by omega), decide_eq_false (show ¬ (65 <= b.toNat /\ b.toNat <= 90) by omega)]; rfl
  ·rw [decide_eq_false (show ¬ (90 : Int) < b.toNat by omega), decide_eq_true (show 65 <= b.toNat /\ b.toNat <= 90 by omega)]; rfl
theorem z7m {α : Type} (q : α -> Bool) : ∀ (l : List α), ((l.takeWhile q).length < l.length) ↔ l.all q = false
 | [] => by simp
 | x :: l => by
  rw [List.takeWhile_cons, List.all_cons]
  cases q x
  ·simp
  ·simp [z7m q l]
theorem zhi (s : ByteArray) : decide (z82 zax s < s.size) = !(bl s).all cap := by
 have h := z7m (fun b : UInt8 => !zax b.toNat) (bl s)
 rw [zgd] at h
 unfold z82
 rw [zgd, <- z18]
 cases ha : (bl s).all cap
 ·exact decide_eq_true (h.2 ha)
 ·exact decide_eq_false (fun h2 => by rw [h.1 h2] at ha; cases ha)
theorem zud (s : ByteArray) (hs : s.size <= maxLen) : PC Tryz.prog 269 [.str s] (.tup [.str (zjs s), .str (zpi s)]) := by
 have h := zce s hs (cap := []) zcf rfl (fun r _ => zph r) (fun r hr => by unfold zcf; rw [decide_eq_true (show (57 : Int) < r by omega), Bool.or_true])
 rw [show z82 zcf s = z8a s from by unfold z82 z8a; rw [zpl]] at h
 have hle := zbf s
 unfold maxLen at hs
 refine z1y 2 (by simp only [pureD.pureL, pureD, Bool.and_self]) rfl (z1v [] Tryz.func269 rfl (by decide +kernel) z0i (by decide +kernel) (by simp [Tryz.ntmps269]) ?_)
 show awp _ _ (Code.seq _ _) _ _
 unfold zjs zpi
 by_cases V : z8a s < s.size
 ·rw [if_pos V] at h
  rw [if_pos V, if_pos V]
  repeat' (first | refine zqj ?_ | ((first | refine zqh fun K J => ?_ | refine zqe (by decide +kernel) fun K J => ?_ | refine zqs (h) ?_); (simp (disch := omega) only [go_sem, Nat.reduceBEq, ↓reduceIte])) | ((refine zqd _ rfl (fun hc => ?_) (fun hc => ?_)) <;> (first | (cases hc; done) | ((try simp only [decide_eq_false_iff_not] at hc); (try (exfalso; omega))))) | refine zqb ?_ | refine zqn ?_ | refine zqu (by (simp (disch := omega) only [go_sem]); rfl) rfl ?_ | (refine J _ ?_; clear J K))
  exact z09 rfl (Le.refl _)
 ·rw [if_neg V] at h
  rw [if_neg V, if_neg V]
  repeat' (first | refine zqj ?_ | ((first | refine zqh fun K J => ?_ | refine zqs (h) ?_); (simp (disch := omega) only [go_sem, Nat.reduceBEq, ↓reduceIte, Int.reduceLT])) | ((refine zqd _ rfl (fun hc => ?_) (fun hc => ?_)) <;> (first | (cases hc; done) | ((try simp only [] at hc); (try (exfalso; omega))))) | refine zqg ?_ | refine zqu (by (simp (disch := omega) only [go_sem]); rfl) rfl ?_ | (refine J _ ?_; clear J K))
  exact z09 rfl (Le.refl _)
theorem zhj (s : ByteArray) (hs : s.size <= maxLen) : PC Tryz.prog 186 [.str s] (.bool (z3c s)) := by
 have h := zud s hs
 have hA := zpj s
 have hB := zpk s
 have hle := zbf s
 have hc := zcz (zpi s) (by omega) (cap := []) zax rfl (fun r _ => zuc r) (fun r hr => by unfold zax; rw [decide_eq_true (show (90 : Int) < r by omega), Bool.or_true])
 rw [zhi, znl] at hc
 have hbl := z18 (zjs s)
 unfold maxLen at hs
 have hz : Int.toNat 0 = 0 := rfl
 have hne : ∀ h : 0 < (zjs s).size, (bl (zjs s))[0].toNat = ((bl s).headD 0).toNat := fun h => by
  refine (congrArg UInt8.toNat (zo1 h)).trans ?_
  rw [znk]
  congr 1
  obtain ⟨n, hn⟩ : ∃ n, z8a s = n + 1 := ⟨z8a s - 1, by omega⟩
  rw [hn]
  cases bl s <;> rfl
 refine z1y 1 (by simp only [pureD.pureL, pureD, Bool.and_self]) rfl (z1v [] Tryz.func186 rfl (by decide +kernel) z0i (by decide +kernel) (by simp [Tryz.ntmps186]) ?_)
 show awp _ _ (Code.seq _ _) _ _
 repeat' (first | ((first | refine zqh fun K J => ?_ | refine zqs (h) ?_ | refine zqs (hc) ?_); (simp (disch := omega) only [go_sem, Nat.reduceBEq, ↓reduceIte])) | refine zqn ?_ | refine zqu (by (simp (disch := omega) only [go_sem]); rfl) rfl ?_ | (refine J _ ?_; clear J K) | (refine zqf (fun hb => ?_) (fun hb => ?_) <;> (have hb2 := hb; try simp only [z01] at hb2) <;> ((first | have F := eq_false hb2 | have F := eq_true hb2); (simp (disch := omega) only [go_sem, Nat.reduceBEq, ↓reduceIte, Int.reduceLE, F, zdi, hz]); clear hb F; (try (exfalso; omega)))))
 ·have hf := hne (by omega)
  exact z00 (by unfold z3c; rw [decide_eq_true (by omega), Bool.true_and, Bool.not_not])
 ·exact z00 (by unfold z3c; rw [decide_eq_false (by omega)]; rfl)
 ·have hf := hne (by omega)
  exact z00 (by unfold z3c; rw [decide_eq_false (by omega)]; rfl)
 ·exact z00 (by unfold z3c; rw [decide_eq_false (by omega)]; rfl)
 ·exact z00 (by unfold z3c; rw [decide_eq_false (by omega)]; rfl)
namespace Tr
def z89 {α : Type} (f : α -> Bool) (l : List α) : Nat := (l.takeWhile fun x => !f x).length
theorem zb7 {α : Type} {f : α -> Bool} {l : List α} {k : Nat} (O : k <= l.length) (h1 : ∀ j, (hj : j < k) -> f (l[j]'(by omega)) = false) (h2 : ∀ h : k < l.length, f l[k] = true) : z89 f l = k := by
 unfold z89
 exact z5g O (fun j hj => by rw [h1 j hj]; rfl) (fun h => by rw [h2 h]; rfl)
theorem zyk {α : Type} (f : α -> Bool) (l : List α) : decide (z89 f l < l.length) = l.any f := by
 have h := z7m (fun x => !f x) l
 have h2 : (l.all fun x => !f x) = !l.any f := by rw [<- List.not_any_eq_all_not]
 unfold z89
 rw [h2] at h
 cases ha : l.any f
 ·exact decide_eq_false (fun h3 => by have := h.1 h3; rw [ha] at this; cases this)
 ·exact decide_eq_true (h.2 (by rw [ha]; rfl))
end Tr
theorem zho (nn : Bool) (l : List T) (hl : l.length <= maxLen) {g : FuncId} {cap : List D} (f : T -> Bool) (hc : pureD.pureL cap = true) (hp : ∀ x ∈ l, PC Tryz.prog g (z25 x :: cap) (.bool (f x))) :
  PC Tryz.prog 65 [.rsl nn 8 (l.map z25), .fn g cap] (.int .i64 (if z89 f l < l.length then (z89 f l : Int) else -1)) := by
 unfold maxLen at hl
 refine z1y 1 (by simp only [pureD.pureL, pureD, hc, z1l (f := z25) (z05) l, Bool.and_self]) rfl (z1v [] Tryz.func65 rfl (by decide +kernel) z0i (by decide +kernel) (by simp [Tryz.ntmps65]) ?_)
 show awp _ _ (Code.seq _ _) _ _
 repeat' (first | refine zqj ?_ | ((refine zqh fun K J => ?_); (simp (disch := omega) only [go_sem, Nat.reduceBEq])) | refine zqa ?_ | (refine J _ ?_; clear J K))
 (refine z3h (fun U st => ∃ (i : _), U = l.length - i /\ st.t 0 = .rsl nn 8 (l.map z25) /\ st.t 1 = .fn g cap /\ st.t 7 = .int .i64 l.length /\ st.t 8 = .int .i64 i /\ (i <= l.length) /\ (∀ j, (hj : j < i) -> (h : j < l.length) -> f l[j] = false)) ?_ ?_); rotate_left; (rintro U st ⟨i, rfl, q0, q1, q7, q8, qp0, qp1⟩); rotate_left
 ·(refine ⟨_, 0, rfl, ?_⟩); (simp (disch := omega) only [go_sem, Nat.reduceBEq, true_and, Int.natCast_zero])
  intro j hj; omega
 have hp := fun (h : i < l.length) => hp l[i] (List.getElem_mem h)
 repeat' (first | ((first | refine zqh fun K J => ?_ | refine zqr fun K J => ?_ | refine zqs (hp (by omega)) ?_); (simp (disch := omega) only [go_sem, Nat.reduceBEq, ↓reduceIte, reduceCtorEq, Nat.reduceAdd, q0, q1, q7, q8])) | ((first | refine zqd _ rfl (fun hc => ?_) (fun hc => ?_) | refine zqm _ rfl (fun hc => ?_) (fun hc => ?_)) <;> (((try simp only [z01] at hc); (try (exfalso; omega))))) | refine zqa ?_ | refine zqb ?_ | refine zqc ?_ | refine zqk ?_ | refine zqn ?_ | refine zqv ?_ | refine zqx ?_ | refine zqy ?_ | refine zqz ?_ | refine z23 ?_ | refine zqp ?_ | refine zqo ?_ | refine zqu (by (simp (disch := omega) only [go_sem]); rfl) rfl ?_ | (refine J _ ?_; clear J K))
 ·refine z56 ?_
  rw [zb7 (k := i) (by omega) (fun j hj => qp1 j hj (by omega)) (fun h => by assumption), if_pos (by omega)]
 ·(refine Exists.intro _ (And.intro ?_ ⟨i + 1, rfl, ?_⟩)); rotate_left; (simp (disch := omega) only [go_sem, Nat.reduceBEq, q0, q1, q7, q8, true_and, Int.natCast_add, Int.natCast_one]); rotate_left
  ·omega
  ·refine ⟨by omega, fun j hj h => ?_⟩
   by_cases e : j = i
   ·subst e; assumption
   ·exact qp1 j (by omega) h
 ·refine z56 ?_
  have hi : i = l.length := by omega
  subst hi
  rw [zb7 (k := l.length) (by omega) (fun j hj => qp1 j hj (by omega)) (fun h => by omega), if_neg (by omega)]
def nameL : List ByteArray := [⟨#[98, 111, 111, 107]⟩, ⟨#[112, 97, 114, 116]⟩, ⟨#[115, 101, 99, 116, 105, 111, 110]⟩, ⟨#[112, 97, 114, 97, 103, 114, 97, 112, 104]⟩, ⟨#[116, 97, 98, 108, 101]⟩, ⟨#[114, 111, 119]⟩, ⟨#[99, 101, 108, 108]⟩, ⟨#[110, 111, 116, 101]⟩]
def zq1 (k : Int) : ByteArray := if 0 <= k /\ k < 8 then nameL.getD k.toNat ByteArray.empty else ByteArray.empty
theorem zvf {k : Int} (h : 0 <= k /\ k < 8) : k = 0 \/ k = 1 \/ k = 2 \/ k = 3 \/ k = 4 \/ k = 5 \/ k = 6 \/ k = 7 := by omega
def belowL : List (List Int) := [[1, 2], [2], [3, 4, 7], [3, 4, 7], [5], [6], [], []]
def z2h (p k : Int) : Bool := if 0 <= p /\ p < 8 then (belowL.getD p.toNat []).any (fun x => decide (k = x)) else false
namespace Tr
def zfo (l : List Nat) : Nat := l.foldl (fun d x => max d (1 + x)) 0
def depT (t : T) : Nat := zec (fun _ l => zfo l) t
theorem zbt (t : T) : depT t = zfo (t.kids.map depT) := by unfold depT; rw [z39]
theorem ztv (l : List Nat) (x : Nat) : zfo (l ++ [x]) = max (zfo l) (1 + x) := by unfold zfo; rw [List.foldl_append]; rfl
theorem depF_le {l : List Nat} : ∀ (a : Nat), (a <= l.foldl (fun d x => max d (1 + x)) a) /\ ∀ x ∈ l, 1 + x <= l.foldl (fun d x => max d (1 + x)) a := by
 induction l with
 | nil => intro a; simp
 | cons y l ih =>
  intro a
  simp only [List.foldl_cons]
  obtain ⟨h1, h2⟩ := ih (max a (1 + y))
  refine ⟨by omega, fun x hx => ?_⟩
  rcases List.mem_cons.1 hx with rfl | hx
  ·omega
  ·exact h2 x hx
theorem z4e {t k : T} (h : k ∈ t.kids) : 1 + depT k <= depT t := by
 rw [zbt t]
 exact (depF_le 0).2 _ (List.mem_map.2 ⟨k, h, rfl⟩)
end Tr
namespace Tr
def z26 (id : Idv) (t : T) : List T := zec (fun t l => if t.id = id then [t] else match l.find? (fun w => !w.isEmpty) with
 | some w => t :: w
 | none => []) t
theorem z8n (id : Idv) (t : T) : z26 id t = if t.id = id then [t] else match (t.kids.map (z26 id)).find? (fun w => !w.isEmpty) with
  | some w => t :: w
  | none => [] := by
 unfold z26; rw [z39]
theorem zej {α β : Type} (f : α -> List β) : ∀ {l : List α} {i : Nat}, (∀ j, (hj : j < i) -> (h : j < l.length) -> f l[j] = []) -> l.length <= i -> (l.map f).find? (fun w => !w.isEmpty) = none
 | [], _, _, _ => rfl
 | x :: l, i, h, hi => by
  rw [List.map_cons, List.find?_cons]
  have h0 := h 0 (by simp at hi; omega) (by simp)
  simp only [List.getElem_cons_zero] at h0
  rw [h0]
  exact zej f (l := l) (i := i - 1) (fun j hj hl => h (j + 1) (by omega) (by simpa using hl)) (by simp at hi; omega)
theorem zek {α β : Type} (f : α -> List β) : ∀ {l : List α} {i : Nat} (hi : i < l.length), (∀ j, (hj : j < i) -> (h : j < l.length) -> f l[j] = []) -> f l[i] ≠ [] -> (l.map f).find? (fun w => !w.isEmpty) = some (f l[i])
 | x :: l, 0, _, _, hn => by
  simp only [List.getElem_cons_zero] at hn ⊢
  rw [List.map_cons, List.find?_cons]
  cases hf : f x with
  | nil => exact (hn hf).elim
  | cons a b => rfl
 | x :: l, i + 1, hi, h, hn => by
  rw [List.map_cons, List.find?_cons]
  have h0 := h 0 (by omega) (by simp)
  simp only [List.getElem_cons_zero] at h0
  rw [h0]
  simp only [List.getElem_cons_succ] at hn ⊢
  exact zek f (l := l) (i := i) (by simpa using hi) (fun j hj hl => h (j + 1) (by omega) (by simpa using hl)) hn
end Tr
theorem z7k : ∀ w : List T, z1h 8 (w.map z25) = some (w.flatMap z07)
 | [] => rfl
 | t :: w => by
  rw [List.map_cons, List.flatMap_cons]
  unfold z1h
  rw [z7k w]
  simp only [z25, z4k, z0v, if_true]
theorem zau (id : Idv) : ∀ t : T, (z26 id t).length <= 1 + depT t := by
 refine z55 fun t ih => ?_
 rw [z8n]
 split
 ·simp
 ·split
  ·rename_i w hw
   have hm := List.mem_of_find?_eq_some hw
   obtain ⟨k, O, rfl⟩ := List.mem_map.1 hm
   have h1 := ih k O
   have h2 := z4e O
   simp only [List.length_cons]; omega
  ·simp
def zav (w : List T) : D := if w = [] then .nil else .rsl true 8 (w.map z25)
theorem zlr (w : List T) : pureD (zav w) = true := by
 unfold zav
 split
 ·rfl
 ·simp only [pureD]; exact z1l z05 w
theorem le_nn {sz : Nat} {els : List D} (h : els ≠ []) : Le (.rsl false sz els) (.rsl true sz els) := fun s v hr => by
 simp only [rel] at hr ⊢
 rcases hr with ⟨_, h1, _⟩ | hr
 ·exact (h h1).elim
 ·exact .inr hr
theorem ztw (id : Idv) : ∀ t : T, fitB t = true -> depT t <= 1000000000 -> PC Tryz.prog 59 [z25 t, z6x id] (zav (z26 id t)) := by
 refine z55 fun t ih hfit V => ?_
 obtain ⟨h1, h2, h3, h4⟩ := (z9x t).1 hfit
 unfold maxLen at h3
 refine z1y 3 (by simp only [pureD.pureL, z05]; rfl) (zlr _) (z1v [27] Tryz.func59 rfl (by decide +kernel) z0i (by decide +kernel) (by simp [Tryz.ntmps59]) ?_)
 show awp _ _ (Code.seq _ _) _ _
 rw [z8n]
 repeat' (first | refine zqj ?_ | ((refine zqh fun K J => ?_); (simp (disch := omega) only [go_sem, Nat.reduceBEq, ↓reduceIte, reduceCtorEq, Nat.reduceAdd, Nat.reduceMul, Nat.reduceLeDiff])) | ((refine zqd _ rfl (fun hc => ?_) (fun hc => ?_)) <;> (((try simp only [z01] at hc); (try (exfalso; omega))))) | refine zqa ?_ | refine zqb ?_ | refine zqg ?_ | refine zqu (by (simp (disch := omega) only [go_sem]); rfl) rfl ?_ | (refine J _ ?_; clear J K))
 ·rw [if_pos (by assumption), zav, if_neg (by simp)]
  exact z09 (z1l z05 [t]) (Le.refl _)
 ·rw [if_neg (by assumption)]
  (refine z3h (fun U st => ∃ (i : _), U = t.kids.length - i /\ st.t 2 = .ptr 0 0 /\ st.t 3 = .ptr 1 0 /\ st.t 15 = z10 t.kids /\ st.t 16 = .int .i64 t.kids.length /\ st.t 17 = .int .i64 i /\ st.H 0 = some (.box 27 (z07 t)) /\ st.H 1 = some (.box 23 (z08 id)) /\ (i <= t.kids.length) /\ (2 <= st.nx) /\ (∀ j, (hj : j < i) -> (h : j < t.kids.length) -> z26 id t.kids[j] = [])) ?_ ?_); rotate_left; (rintro U st ⟨i, rfl, q2, q3, q15, q16, q17, qH0, qH1, qp0, qp1, qp2⟩); rotate_left
  ·(refine ⟨_, 0, rfl, ?_⟩); (simp (disch := omega) only [go_sem, Nat.reduceBEq, Nat.reduceLeDiff, true_and, Int.natCast_zero, z10, z08])
   intro j hj; omega
  have hin := fun (h : i < t.kids.length) => ih t.kids[i] (List.getElem_mem h) (h4 _ (List.getElem_mem h)) (by have := z4e (List.getElem_mem h); omega)
  have hlen := fun (h : i < t.kids.length) => zau id t.kids[i]
  have hdk := fun (h : i < t.kids.length) => z4e (t := t) (List.getElem_mem h)
  by_cases hw : ∃ h : i < t.kids.length, z26 id t.kids[i] = []
  ·obtain ⟨hi, hw⟩ := hw
   have hin := hin hi
   rw [hw, zav, if_pos rfl] at hin
   repeat' (first | ((first | refine zqh fun K J => ?_ | refine zqr fun K J => ?_ | refine zqs (hin) ?_); (simp (disch := omega) only [go_sem, Nat.reduceBEq, ↓reduceIte, reduceCtorEq, Nat.reduceAdd, Nat.reduceLeDiff, q3, q15, q16, q17, qH1, z10, z08])) | ((first | refine zqd _ rfl (fun hc => ?_) (fun hc => ?_) | refine zqm _ rfl (fun hc => ?_) (fun hc => ?_)) <;> (first | (cases hc; done) | ((try simp only [z01] at hc); (try (exfalso; omega))))) | refine zqa ?_ | refine zqb ?_ | refine zqk ?_ | refine zqv ?_ | refine zqy ?_ | (refine J _ ?_; clear J K))
   (refine Exists.intro _ (And.intro ?_ ⟨i + 1, rfl, ?_⟩)); rotate_left; (simp (disch := omega) only [go_sem, Nat.reduceBEq, Nat.reduceLeDiff, q2, q3, q15, q16, q17, qH0, qH1, true_and, Int.natCast_add, Int.natCast_one]); rotate_left
   ·omega
   ·refine ⟨by omega, by omega, fun j hj h => ?_⟩
    by_cases e : j = i
    ·subst e; exact hw
    ·exact qp2 j (by omega) h
  ·have hin := fun h => by
    have := hin h
    rw [zav, if_neg (fun hh => hw ⟨h, hh⟩)] at this
    exact this
   by_cases hi : i < t.kids.length
   ·have hl := hlen hi
    have hdk := hdk hi
    have hne : z26 id t.kids[i] ≠ [] := fun hh => hw ⟨hi, hh⟩
    rw [zek (z26 id) hi qp2 hne]
    repeat' (first | ((first | refine zqh fun K J => ?_ | refine zqs (hin hi) ?_); (simp (disch := omega) only [go_sem, Nat.reduceBEq, ↓reduceIte, reduceCtorEq, Nat.reduceAdd, Nat.reduceMul, Nat.reduceLeDiff, q2, q3, q15, q16, q17, qH0, qH1, z10, z08, z7k])) | ((first | refine zqd _ rfl (fun hc => ?_) (fun hc => ?_) | refine zqm _ rfl (fun hc => ?_) (fun hc => ?_)) <;> (first | (cases hc; done) | ((try simp only [z01] at hc); (try (exfalso; omega))))) | refine zqa ?_ | refine zqb ?_ | refine zqn ?_ | refine zqx ?_ | refine z23 ?_ | refine zqo ?_ | refine zqu (by (simp (disch := omega) only [go_sem]); rfl) rfl ?_ | (refine J _ ?_; clear J K))
    have he : zav (t :: z26 id t.kids[i]) = .rsl true 8 ((t :: z26 id t.kids[i]).map z25) := if_neg (List.cons_ne_nil _ _)
    simp only [he]
    (simp (disch := omega) only [go_sem, Nat.reduceBEq, Nat.add_comm 1])
    refine ⟨_, z2w (l := t :: z26 id t.kids[i]) (f := z07) 1 ?_ z7o z6p z0v z1d, le_nn (by simp)⟩
    (simp (disch := omega) only [go_sem])
    rw [List.append_nil, List.flatMap_cons]
   ·rw [zej (z26 id) qp2 (by omega)]
    repeat' (first | ((refine zqh fun K J => ?_); (simp (disch := omega) only [go_sem, Nat.reduceBEq, ↓reduceIte, q16, q17])) | ((refine zqd _ rfl (fun hc => ?_) (fun hc => ?_)) <;> (((try simp only [z01] at hc); (try (exfalso; omega))))) | refine zqc ?_ | refine zqn ?_ | refine zqv ?_ | refine zqz ?_ | refine zqp ?_ | refine zqu (by (simp (disch := omega) only [go_sem]); rfl) rfl ?_ | (refine J _ ?_; clear J K))
    exact z09 rfl (Le.refl _)
theorem PC_nn {P : Program} {f : FuncId} {sz : Nat} {els ds : List D} {r : D} (h1 : els = [] -> PC P f (.nil :: ds) r) (h2 : PC P f (.rsl true sz els :: ds) r) : PC P f (.rsl false sz els :: ds) r := by
 refine ⟨?_, h2.2.1, h2.2.2.1, fun s w vs e1 e2 e3 e4 => ?_⟩
 ·have := h2.1
  simpa only [pureD.pureL, pureD] using this
 ·simp only [relAll, rel] at e4
  obtain ⟨v, q, rfl, hv, hq⟩ := e4
  rcases hv with ⟨_, he, rfl⟩ | hv
  ·exact (h1 he).2.2.2 s w _ e1 e2 e3 (z0m (by simp only [rel]) hq)
  ·exact h2.2.2.2 s w _ e1 e2 e3 (z0m (by simp only [rel]; exact .inr hv) hq)
theorem z9n : ∀ l : List Wd, z1h 4 (l.map zp2) = some (l.flatMap z7f)
 | [] => rfl
 | t :: w => by
  rw [List.map_cons, List.flatMap_cons]
  unfold z1h
  rw [z9n w]
  rfl
theorem zkc (l : List Wd) : pureD.pureL (l.flatMap z7f) = true := z2m (fun _ => rfl) l
theorem zhn (l : List Wd) : z1m true 4 l.length (l.flatMap z7f) = l.map zp2 := z6v (f := z7f) (sz := 4) (fun _ => rfl) l
theorem zkd (l : List Wd) (hl : l.length <= 1000000000000) : PC Tryz.prog 73 [z0s l] (z0s l) := by
  refine PC_nn (fun he => ?_) ?_
  · refine z1y 2 rfl (z13 l) (z1v [1000005, 1000007] Tryz.func73 rfl (by decide +kernel) z0i (by decide +kernel) (by simp [Tryz.ntmps73]) ?_)
    show awp _ _ (Code.seq _ _) _ _
    repeat' (first | refine zqj ?_ | ((refine zqh fun K J => ?_); (simp (disch := omega) only [go_sem, Nat.reduceBEq, ↓reduceIte])) | ((refine zqd _ rfl (fun hc => ?_) (fun hc => ?_)) <;> (first | (cases hc; done) | ((try simp only [] at hc); (try (exfalso; omega))))) | refine zqg ?_ | refine zqu (by (simp (disch := omega) only [go_sem]); rfl) rfl ?_ | (refine J _ ?_; clear J K))
    exact z09 rfl (by have h2 : z0s l = .rsl false 4 [] := by unfold z0s; rw [he]
                      rw [h2]; exact Le.nil 4)
  · refine z1y 2 (by simp only [pureD.pureL, pureD, z1l (f := zp2) (fun _ => rfl) l, Bool.and_self]) (z13 l) (z1v [1000005, 1000007] Tryz.func73 rfl (by decide +kernel) z0i (by decide +kernel) (by simp [Tryz.ntmps73]) ?_)
    show awp _ _ (Code.seq _ _) _ _
    repeat' (first | refine zqj ?_ | ((refine zqh fun K J => ?_); (simp (disch := omega) only [go_sem, Nat.reduceBEq, ↓reduceIte, reduceCtorEq, Nat.reduceAdd, Nat.reduceMul, z9n, zkc, zhn])) | ((refine zqd _ rfl (fun hc => ?_) (fun hc => ?_)) <;> (first | (cases hc; done) | ((try simp only [] at hc); (try (exfalso; omega))))) | refine zqb ?_ | refine zqn ?_ | refine zqu (by (simp (disch := omega) only [go_sem]); rfl) rfl ?_ | (refine J _ ?_; clear J K))
    exact z09 (z13 l) (Le.refl _)
namespace Tr
def smB (t : T) : Bool := zec (fun t l => decide (t.head.length <= 1000000) && (decide (t.words.length <= 1000000) && (decide (t.kids.length <= 1000000) && l.all id))) t
theorem zke (t : T) : smB t = true ↔ t.head.length <= 1000000 /\ t.words.length <= 1000000 /\ t.kids.length <= 1000000 /\ ∀ k ∈ t.kids, smB k = true := by
 unfold smB
 rw [z39]
 simp only [List.all_map, Bool.and_eq_true, decide_eq_true_iff, List.all_eq_true]
 rfl
theorem znu : ∀ t : T, smB t = true -> fitB t = true := by
 refine z55 fun t ih h => ?_
 obtain ⟨h1, h2, h3, h4⟩ := (zke t).1 h
 exact (z9x t).2 ⟨by unfold maxLen; omega, by unfold maxLen; omega, by unfold maxLen; omega, fun k O => ih k O (h4 k O)⟩
end Tr
theorem zvj : ∀ t : T, smB t = true -> PC Tryz.prog 60 [z25 t] (z25 t) := by
 refine z55 fun t ih hfit => ?_
 obtain ⟨h1, h2, h3, h4⟩ := (zke t).1 hfit
 have hc1 := zkd t.head (by omega)
 have hc2 := zkd t.words (by omega)
 refine z1y 4 (by simp only [pureD.pureL, z05, Bool.and_self]) (z05 _) (z1v [3] Tryz.func60 rfl (by decide +kernel) z0i (by decide +kernel) (by simp [Tryz.ntmps60]) ?_)
 show awp _ _ (Code.seq _ _) _ _
 rw [show Tryz.f60.results.toList = [.cell 2 27] from rfl]
 rw [z25, z1p]
 repeat' (first | refine zqj ?_ | ((first | refine zqh fun K J => ?_ | refine zqe (by decide +kernel) fun K J => ?_ | refine zqt (hc1) ?_ | refine zqt (hc2) ?_); (simp (disch := omega) only [go_sem, Nat.reduceBEq, ↓reduceIte, reduceCtorEq, Nat.reduceAdd])) | refine zqa ?_ | (refine J _ ?_; clear J K))
 (refine z3h (fun U st => ∃ (i : _), U = t.kids.length - i /\ st.t 1 = .ptr 0 0 /\ st.t 2 = .ptr 1 0 /\ st.t 3 = .osl 2 i /\ st.t 15 = z10 t.kids /\ st.t 16 = .int .i64 t.kids.length /\ st.t 17 = .int .i64 i /\ st.H 2 = some (.row 27 i ((t.kids.take i).flatMap z07)) /\ st.H 0 = some (.box 27 [.int .i64 t.id.act, .int .i64 t.id.item, .int .i64 t.id.n, .int .i64 t.kind, .str t.label, z0s t.head, z0s t.words, z10 t.kids]) /\ st.H 1 = some (.box 27 [.int .i64 0, .int .i64 0, .int .i64 0, .int .i64 0, .str ByteArray.empty, .nil, .nil, .nil]) /\ (i <= t.kids.length) /\ (3 <= st.nx)) ?_ ?_); rotate_left; (rintro U st ⟨i, rfl, q1, q2, q3, q15, q16, q17, qH2, qH0, qH1, qp0, qp1⟩); rotate_left
 ·(refine ⟨_, 0, rfl, ?_⟩); (simp (disch := omega) only [go_sem, Nat.reduceBEq, Nat.reduceLeDiff, true_and, and_true, and_self, Int.natCast_zero, List.flatMap_nil, z10])
  all_goals rfl
 have hin := fun (h : i < t.kids.length) => ih t.kids[i] (List.getElem_mem h) (h4 _ (List.getElem_mem h))
 repeat' (first | ((first | refine zqh fun K J => ?_ | refine zqr fun K J => ?_ | refine zqs (hin (by omega)) ?_); (simp (disch := omega) only [go_sem, Nat.reduceBEq, ↓reduceIte, reduceCtorEq, Nat.reduceAdd, Nat.reduceMul, Nat.reduceLeDiff, Nat.reduceLT, q1, q2, q3, q15, q16, q17, qH2, qH0, qH1, z10])) | ((refine zqd _ rfl (fun hc => ?_) (fun hc => ?_)) <;> (((try simp only [z01] at hc); (try (exfalso; omega))))) | refine zqa ?_ | refine zqb ?_ | refine zqc ?_ | refine zqn ?_ | refine zqv ?_ | refine zqy ?_ | refine zqz ?_ | refine zqp ?_ | refine zqu (by (simp (disch := omega) only [go_sem, Nat.reduceBEq, ↓reduceIte, Nat.reduceAdd, Nat.reduceLeDiff, q2, qH1]); rfl) rfl ?_ | (refine J _ ?_; clear J K))
 ·have htk := List.take_succ_eq_append_getElem (l := t.kids) (i := i) (by omega)
  (refine Exists.intro _ (And.intro ?_ ⟨i + 1, rfl, ?_⟩)); rotate_left; (simp (disch := omega) only [go_sem, Nat.reduceBEq, Nat.reduceLeDiff, q1, q2, q3, q15, q16, q17, qH2, qH0, qH1, true_and, Int.natCast_add, Int.natCast_one, List.flatMap_append, List.flatMap_cons, List.flatMap_nil, List.append_nil, htk]); rotate_left
  all_goals omega
 have hi : i = t.kids.length := by omega
 subst hi
 rw [List.take_length] at qH2
 refine z6u (ze6 (k := 3) (by simp [pureD.pureL, pureD]) ?_)
 simp only [z10]
 refine z0u (z0w 2 rfl) (z0u (z0w 2 rfl) (z0u (z0w 2 rfl) (z0u (z0w 2 rfl) (z0u (z0w 2 rfl) (z0u (z0w 2 (z13 _)) (z0u (z0w 2 (z13 _)) (z0u ?_ z7e)))))))
 refine z2w (f := z07) (l := t.kids) 1 ?_ z7o z6p z0v z1d
 (simp (disch := omega) only [go_sem, Nat.reduceBEq, qH2])
end
end Go.Proofs.YtppebcifiejplaaGreatDoor
