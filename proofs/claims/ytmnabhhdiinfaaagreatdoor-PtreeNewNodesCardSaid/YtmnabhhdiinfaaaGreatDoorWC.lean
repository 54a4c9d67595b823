import Derived.Test.YtmnabhhdiinfaaaGreatDoorWB
import Derived.ProofKit
import Derived.ChangeSlices
import Derived.Below
import Derived.ChangeArms
import Derived.DataReads
import Derived.Test.YtmnabhhdiinfaaaGreatDoorProg
import Derived.KernelRfl
import Derived.Test.YtmnabhhdiinfaaaGreatDoorRows
import Derived.OpenShut
import Derived.LaidMore
import Derived.MakeChecks
import Derived.FnData
import Derived.Carry
import Derived.WideShapes
import Derived.Laws.RangeAny
/-
 Lemmas of the claim. No condition but those that each names.
-/
set_option linter.unusedSimpArgs false
set_option linter.unusedVariables false
set_option maxRecDepth 100000
set_option maxHeartbeats 8000000
set_option linter.unusedSectionVars false
namespace Go.Proofs.YtmnabhhdiinfaaaGreatDoor.Abs
open Go.RowKit

theorem zsq {n : Int} (h : -9223372036854775808 <= n /\ n <= 9223372036854775807) : IntKind.i64.wrap n = n := by rw [IntKind.wrap_i64]; omega
theorem idxD_map {α : Type} (f : α -> D) (l : List α) (k : Nat) (h : k < l.length) : idxD (l.map f) (k : Int) = some (f l[k]) := by
 unfold idxD
 rw [if_pos ⟨by omega, by simpa using h⟩]
 simp [h]
theorem z0x {α : Type} {f : α -> D} (h : ∀ x, pureD (f x) = true) : ∀ (l : List α), pureD.pureL (l.map f) = true
 | [] => rfl
 | x :: l => by simp only [List.map_cons, pureD.pureL, h x, z0x h l, Bool.and_self]
theorem z08 {P : Program} {H : HM} {d : D} (k : Nat) (h : pureD d = true) : z2y P H (k + 1) d = some d := by unfold z2y; rw [if_pos h]
theorem zch {P : Program} {H : HM} (k : Nat) : ∀ (ds : List D), pureD.pureL ds = true -> zdo (z2y P H (k + 1)) ds = some ds
 | [], _ => rfl
 | d :: ds, h => by
  simp only [pureD.pureL, Bool.and_eq_true] at h
  simp only [zdo, z08 k h.1, zch k ds h.2]
theorem zds : ∀ (cs : List D), z31 false 1 cs.length cs = cs
 | [] => rfl
 | c :: cs => by
  simp only [List.length_cons, z31, Bool.false_eq_true, if_false, List.getElem?_cons_zero, Option.getD_some, List.drop_succ_cons, List.drop_zero]
  rw [zds cs]
theorem zlv {P : Program} {H : HM} {id n e : Nat} {cs : List D} (k : Nat) (hH : H id = some (.row e n cs)) (ha : z0g P e = false) (hs : z09 P e = 1) (hn : cs.length = n) (hp : pureD.pureL cs = true) :
  z2y P H (k + 2) (.osl id n) = some (.rsl false 1 cs) := by
 unfold z2y
 simp only [pureD, Bool.false_eq_true, if_false, hH, ha, hs, and_self, or_true, if_true]
 rw [zch k cs hp]
 simp only [Option.map_some]
 rw [<- hn, zds]

def encI (l : List Int) : D := .rsl false 1 (l.map fun n => .int .i64 n)
def zz2 (l : List ByteArray) : D := .rsl false 1 (l.map .str)
theorem zlw (l : List Int) : pureD (encI l) = true := by simp only [encI, pureD]; exact z0x (fun _ => rfl) l
theorem zlx (l : List ByteArray) : pureD (zz2 l) = true := by simp only [zz2, pureD]; exact z0x (fun _ => rfl) l
end Go.Proofs.YtmnabhhdiinfaaaGreatDoor.Abs
namespace Go.Proofs.YtmnabhhdiinfaaaGreatDoor.Abs
theorem z0a {P : Program} {H : HM} {nx k : Nat} {d r : D} (hp : pureD d = true) (h : Le d r) : Fin P (k + 1) r d H nx := ⟨d, z08 k hp, h⟩
theorem z03 {P : Program} {H : HM} {nx : Nat} {b c : Bool} (h : b = c) : Fin P 1 (.bool c) (.bool b) H nx := z0a rfl (by rw [h]; exact Le.refl _)
theorem z1e {P : Program} {H : HM} {nx : Nat} {b c : Int} (h : b = c) : Fin P 1 (.int .i64 c) (.int .i64 b) H nx := z0a rfl (by rw [h]; exact Le.refl _)
end Go.Proofs.YtmnabhhdiinfaaaGreatDoor.Abs
namespace Go.Proofs.YtmnabhhdiinfaaaGreatDoor.Abs
open Go.RowKit
theorem z2c {P : Program} {H : HM} {id e : Nat} {c d : D} (k : Nat) (hH : H id = some (.box e [c])) (ha : z0g P e = false) (hc : z2y P H k c = some d) : z2y P H (k + 1) (.ptr id 0) = some (.rptr d) := by
 unfold z2y
 simp only [pureD, Bool.false_eq_true, if_false, hH, ha, false_or, List.length_cons, List.length_nil, and_self, if_true, zdo, hc, Option.map_some, List.getElem?_cons_zero, Option.getD_some]
theorem z00 {P : Program} {H : HM} {k : Nat} {d d' : D} {ds ds' : List D} (h : z2y P H k d = some d') (hs : zdo (z2y P H k) ds = some ds') : zdo (z2y P H k) (d :: ds) = some (d' :: ds') := by
 simp only [zdo, h, hs]
theorem z0c {P : Program} {H : HM} {k : Nat} : zdo (z2y P H k) [] = some [] := rfl
end Go.Proofs.YtmnabhhdiinfaaaGreatDoor.Abs
namespace Go.Proofs.YtmnabhhdiinfaaaGreatDoor.Abs
open Go.RowKit
theorem zf8 {P : Program} {H : HM} {f : FuncId} {cap cap' : List D} (k : Nat) (hp : pureD.pureL cap = false) (hc : zdo (z2y P H k) cap = some cap') : z2y P H (k + 1) (.fn f cap) = some (.fn f cap') := by
 unfold z2y
 simp only [pureD, hp, Bool.false_eq_true, if_false, hc, Option.map_some]
theorem z50 {P : Program} {H : HM} {nx k : Nat} {d r : D} (h : z2y P H k d = some r) : Fin P k r d H nx := ⟨r, h, Le.refl _⟩
end Go.Proofs.YtmnabhhdiinfaaaGreatDoor.Abs
namespace Go.Proofs.YtmnabhhdiinfaaaGreatDoor.Abs
open Go.RowKit
theorem zax {α : Type} {f : α -> List D} {sz : Nat} (h : ∀ x, (f x).length = sz) : ∀ (l : List α), z31 true sz l.length (l.flatMap f) = l.map fun x => .agg (f x)
 | [] => rfl
 | x :: l => by
  simp only [List.length_cons, z31, if_true, List.flatMap_cons, List.map_cons]
  rw [List.take_left' (h x), List.drop_left' (h x), zax h l]
theorem z2d {α : Type} {f : α -> List D} (h : ∀ x, pureD.pureL (f x) = true) : ∀ (l : List α), pureD.pureL (l.flatMap f) = true
 | [] => rfl
 | x :: l => by
  have app : ∀ (a b : List D), pureD.pureL a = true -> pureD.pureL b = true -> pureD.pureL (a ++ b) = true := by
   intro a b
   induction a with
   | nil => intro _ h; exact h
   | cons d ds ih =>
    intro h1 h2
    simp only [pureD.pureL, Bool.and_eq_true, List.cons_append] at h1 ⊢
    exact ⟨h1.1, ih h1.2 h2⟩
  exact app _ _ (h x) (z2d h l)
theorem z2j {α : Type} {P : Program} {H : HM} {id e sz : Nat} {f : α -> List D} {l : List α} (k : Nat) (hH : H id = some (.row e l.length (l.flatMap f))) (ha : z0g P e = true) (hs : z09 P e = sz) (h : ∀ x, (f x).length = sz) (hp : ∀ x, pureD.pureL (f x) = true) :
  z2y P H (k + 2) (.osl id l.length) = some (.rsl false sz (l.map fun x => .agg (f x))) := by
 unfold z2y
 simp only [pureD, Bool.false_eq_true, if_false, hH, ha, true_or, and_self, if_true, hs]
 rw [zch k _ (z2d hp l)]
 simp only [Option.map_some, zax h]
end Go.Proofs.YtmnabhhdiinfaaaGreatDoor.Abs
namespace Go.Proofs.YtmnabhhdiinfaaaGreatDoor.Abs
theorem z82 {H : HM} {i j : Nat} {o : Option HObj} (h : ¬ j = i) : z0k H i o j = H j := if_neg h
theorem z2u {H : HM} {i : Nat} {o : Option HObj} : z0k H i o i = o := if_pos rfl
end Go.Proofs.YtmnabhhdiinfaaaGreatDoor.Abs
namespace Go.Proofs.YtmnabhhdiinfaaaGreatDoor.Abs
open Go.RowKit
theorem PC.le {P : Program} {f : FuncId} {ds es : List D} {r : D} (h : PC P f es r) (hp : pureD.pureL ds = true) (hl : LeL ds es) : PC P f ds r :=
 ⟨hp, h.2.1, h.2.2.1, fun s w vs h1 h2 h3 h4 => h.2.2.2 s w vs h1 h2 h3 (z8g hl h4)⟩
end Go.Proofs.YtmnabhhdiinfaaaGreatDoor.Abs
namespace Go.Proofs.YtmnabhhdiinfaaaGreatDoor.Abs
open Go.RowKit Go.ChangeShapes

def z83 (W : World) : RS := { m := W.cell?, H := noH, nx := 0, κ := fun _ => .pointer none }
def zwh (W : World) : Prop := ∀ g, rel (z83 W) (globD g) (.pointer (some ⟨g, 0, none⟩))

theorem readS_RH (P : Program) (W : World) (hg : zwh W) : RH P (z83 W) W :=
 ⟨fun a v h => ⟨h, by rintro ⟨id, hid, _⟩; exact absurd hid (Nat.not_lt_zero _)⟩, fun id o ho => (by cases ho), fun i j hi => (hi rfl).elim, hg⟩
theorem zwi {P : Program} {f : FuncId} {ds : List D} {v : Value} {d : D} (h : PC P f ds d) (hd : ∀ s u, rel s d u -> u = v) {W : World} (hg : zwh W) {vs : List Value} (hr : relAll (z83 W) ds vs) :
  Calls P f vs.toArray W fun e W' => e = .returned v /\ Below W.heap.size W W' := by
 refine (h.2.2.2 (z83 W) W vs rfl rfl (readS_RH P W hg) hr).mono fun e W' ⟨u, r', s', he, hrr, hstep, _, hrel⟩ => ?_
 subst hrr
 rw [hd _ _ hrel] at he
 exact ⟨he, hstep.os, hstep.tape, hstep.output, hstep.size, fun k hk => hstep.keep k hk (by rintro ⟨id, hid, _⟩; exact absurd hid (Nat.not_lt_zero _))⟩
end Go.Proofs.YtmnabhhdiinfaaaGreatDoor.Abs
namespace Go.Proofs.YtmnabhhdiinfaaaGreatDoor.Abs
open Go.RowKit Go.ChangeShapes
end Go.Proofs.YtmnabhhdiinfaaaGreatDoor.Abs
namespace Go.Proofs.YtmnabhhdiinfaaaGreatDoor.Abs
open Go.RowKit
variable {P : Program} {own : List Nat} {Q : Exit -> St -> Prop} {st : St}

theorem zqd {c : Operand} {x y b : Code} (t : Bool) (ht : st.ev c = .bool t) (h1 : t = true -> awp P own (.seq x b) Q st) (h2 : t = false -> awp P own (.seq y b) Q st) : awp P own (.seq (.cond c x y) b) Q st :=
 ⟨t, ht, h1, h2⟩
theorem zqb {b : Code} (h : awp P own b Q st) : awp P own (.seq .skip b) Q st := ⟨st, SealTo.refl st, h⟩
theorem zqg {b : Code} (h : Q .ret st) : awp P own (.seq .ret b) Q st := h
theorem zqc {b : Code} {id : Nat} (h : Q (.exit id) st) : awp P own (.seq (.exit id) b) Q st := h
theorem zqa {id : Nat} {c b : Code} (h : awp P own c (blkK id (zu7 (fun st => ∃ st', SealTo P st st' /\ awp P own b Q st') Q)) st) : awp P own (.seq (.block id c) b) Q st := h
theorem zqr {id : Nat} {l : List Oper} (h : ∀ K : St -> Prop, (∀ st, Q .normal st -> K st) -> z2p P own (l.map (·.dst)) l K st) : awp P own (.region id l.toArray false) Q st :=
 zvr (h _ fun _ h => h)
theorem zqq {id : Nat} {l : List Oper} (h0 : zi4 own l.toArray = true) (h : ∀ K : St -> Prop, (∀ st, Q .normal st -> K st) -> z3t P own (l.map (·.dst)) l K st) : awp P own (.region id l.toArray true) Q st :=
 zpp h0 (h _ fun _ h => h)
theorem z4m {c : Code} (I : Nat -> St -> Prop) (h0 : ∃ n, I n st) (h : ∀ n st', I n st' -> awp P own c (loopK I n Q) st') : awp P own (.loop c) Q st := ⟨I, h0, h⟩
def isRN : Exit -> Bool
 | .normal | .ret => true
 | _ => false
theorem zqu {e : Exit} {rs : List ResultVar} {K : D -> HM -> Nat -> Prop} {d : D} (h : resD P st rs = some d) (he : isRN e = true) (hF : K d st.H st.nx) : retQ P rs K e st := by
 cases e <;> first | exact ⟨d, h, hF⟩ | cases he
theorem zqv {Q' : Exit -> St -> Prop} {b : Code} (h : awp P own b Q st) : zu7 (fun st => ∃ st', SealTo P st st' /\ awp P own b Q st') Q' .normal st := ⟨st, SealTo.refl st, h⟩
theorem zqx {k : St -> Prop} (h : Q .ret st) : zu7 k Q .ret st := h
theorem zqy {id : Nat} (h : Q .normal st) : blkK id Q .normal st := h
theorem zqz {id : Nat} (h : Q .normal st) : blkK id Q (.exit id) st := by
 simp only [blkK, if_true]; exact h
theorem z6q {id : Nat} (h : Q .ret st) : blkK id Q .ret st := h
theorem zqp {I : Nat -> St -> Prop} {n id : Nat} (h : Q (.exit id) st) : loopK I n Q (.exit id) st := h
theorem zqo {I : Nat -> St -> Prop} {n : Nat} (h : Q .ret st) : loopK I n Q .ret st := h
section
variable {f : List Oper -> (St -> Prop) -> St -> Prop} {rest : List Oper} {K : St -> Prop} {dst : Option Nat}
theorem zqf {b : Bool} {op : Op} {ty : TypeId} {pos : String} {aft : Array Edge} {g : Option (Nat × Bool)} (h1 : b = true -> f (⟨dst, op, ty, pos, aft, g⟩ :: rest) K st) (h2 : b = false -> f rest K (st.put dst (.tup []))) :
  zvv (some b) f ⟨dst, op, ty, pos, aft, g⟩ rest K st := by
 cases b with
 | true => exact h1 rfl
 | false => exact h2 rfl
end
attribute [go_sem] encI zz2
theorem zwj {α : Type} {f : α -> D} {l : List α} {i : Int} (h0 : 0 <= i) (h : i.toNat < l.length) : idxD (l.map f) i = some (f l[i.toNat]) := by
 unfold idxD
 rw [if_pos ⟨h0, by simp; omega⟩]
 simp [h]
theorem ite_some {α : Type} {c : Prop} [Decidable c] {x : α} (h : c) : (if c then some x else none) = some x := if_pos h
theorem zwk {α β : Type} (f : α -> β) (l : List α) (i : Nat) : (l.map f).take i = (l.take i).map f := (List.map_take).symm
theorem zwl {α β : Type} (f : α -> β) (l : List α) (i : Nat) : (l.map f).drop i = (l.drop i).map f := (List.map_drop).symm
theorem zsr : maxLen = 9223372036854775807 := rfl
attribute [go_sem] zwk zwl zsr
theorem nbeq {a b : Nat} (h : ¬ a = b) : (a == b) = false := by simpa using h
theorem nb1 {a : Nat} {st : St} (h : ¬ a = st.nx) : (a == st.nx) = false := nbeq h
theorem nb2 {a : Nat} {st : St} (h : ¬ st.nx = a) : (st.nx == a) = false := nbeq h
theorem nb3 {a k : Nat} {st : St} (h : ¬ a = st.nx + k) : (a == st.nx + k) = false := nbeq h
theorem nb4 {a k : Nat} {st : St} (h : ¬ st.nx + k = a) : (st.nx + k == a) = false := nbeq h
theorem zwm {α : Type} {f : α -> D} {l : List α} {k : Nat} (h : k < l.length) : idxD (l.map f) (k : Int) = some (f l[k]) := idxD_map f l k h
theorem AC.split {f : FuncId} {pre post : List D} {sz : Nat} {els : List D} {H : HM} {nx : Nat} {K : D -> HM -> Nat -> Prop} (h0 : els = [] -> AC P f (pre ++ .nil :: post) H nx K) (h1 : AC P f (pre ++ .rsl true sz els :: post) H nx K) :
  AC P f (pre ++ .rsl false sz els :: post) H nx K := by
 refine ⟨h1.1, fun s w vs hH hnx hRH hr => ?_⟩
 have key : ∀ (pre : List D) (vs : List Value), relAll s (pre ++ .rsl false sz els :: post) vs -> (els = [] /\ relAll s (pre ++ .nil :: post) vs) \/ relAll s (pre ++ .rsl true sz els :: post) vs := by
  intro pre
  induction pre with
  | nil =>
   intro vs hr
   simp only [List.nil_append, relAll] at hr ⊢
   obtain ⟨v, r, h1, h2, h3⟩ := hr
   simp only [rel] at h2
   rcases h2 with ⟨_, h4, h5⟩ | h2
   ·exact .inl ⟨h4, v, r, h1, by simpa only [rel] using h5, h3⟩
   ·exact .inr ⟨v, r, h1, by simp only [rel]; exact .inr h2, h3⟩
  | cons d ds ih =>
   intro vs hr
   simp only [List.cons_append, relAll] at hr ⊢
   obtain ⟨v, r, h1, h2, h3⟩ := hr
   rcases ih r h3 with ⟨h4, h5⟩ | h4
   ·exact .inl ⟨h4, v, r, h1, h2, h5⟩
   ·exact .inr ⟨v, r, h1, h2, h4⟩
 rcases key pre vs hr with ⟨h2, h3⟩ | h2
 ·exact (h0 h2).2 s w vs hH hnx hRH h3
 ·exact h1.2 s w vs hH hnx hRH h2
theorem zwn {P : Program} {H : HM} {ds ds' : List D} (k : Nat) (hp : pureD.pureL ds = false) (hc : zdo (z2y P H k) ds = some ds') : z2y P H (k + 1) (.tup ds) = some (.tup ds') := by
 unfold z2y
 simp only [pureD, hp, Bool.false_eq_true, if_false, hc, Option.map_some]
theorem z5d {P : Program} {H : HM} {ds ds' : List D} (k : Nat) (hp : pureD.pureL ds = false) (hc : zdo (z2y P H k) ds = some ds') : z2y P H (k + 1) (.agg ds) = some (.agg ds') := by
 unfold z2y
 simp only [pureD, hp, Bool.false_eq_true, if_false, hc, Option.map_some]
theorem zg6 {cs : List D} {n : Nat} (h : n = cs.length) : z31 false 1 n cs = cs := by subst h; exact zds cs
theorem z7x {α : Type} {f : α -> D} (h : ∀ x, z46 (f x) = some [f x]) : ∀ (l : List α), z1s 1 (l.map f) = some (l.map f)
 | [] => rfl
 | x :: l => by simp [z1s, h, z7x h l]
theorem zwo (l : List ByteArray) : z1s 1 (l.map D.str) = some (l.map D.str) := z7x (fun _ => rfl) l
theorem zwp {k : IntKind} (l : List Int) : z1s 1 (l.map (D.int k)) = some (l.map (D.int k)) := z7x (fun _ => rfl) l
theorem zjg (l : List ByteArray) : pureD.pureL (l.map D.str) = true := z0x (fun _ => rfl) l
theorem pure_int {k : IntKind} (l : List Int) : pureD.pureL (l.map (D.int k)) = true := z0x (fun _ => rfl) l
theorem zss {α : Type} (f : α -> D) (l : List α) : z31 false 1 l.length (l.map f) = l.map f := zg6 (by simp)
attribute [go_sem] List.nil_append List.cons_append Bool.false_or Bool.or_true Bool.true_or Bool.or_false zss
theorem zly (a b : List D) : pureD.pureL (a ++ b) = (pureD.pureL a && pureD.pureL b) := by
 induction a with
 | nil => rfl
 | cons d ds ih => simp only [List.cons_append, pureD.pureL, ih, Bool.and_assoc]
attribute [go_sem] zly
theorem zob {α : Type} (f : α -> D) (l : List α) (x : D) : z31 false 1 (l.length + 1) (l.map f ++ [x]) = l.map f ++ [x] := zg6 (by simp)
attribute [go_sem high] zob
theorem zwq {k : IntKind} (l : List Nat) : z1s 1 (l.map fun n => D.int k (n : Nat)) = some (l.map fun n => D.int k (n : Nat)) := z7x (fun _ => rfl) l
theorem pure_nat {k : IntKind} (l : List Nat) : pureD.pureL (l.map fun n => D.int k (n : Nat)) = true := z0x (fun _ => rfl) l
attribute [go_sem] zwo zwp zjg pure_int zwq pure_nat

def zwr (P : Program) (id : Nat) (e : TypeId) (k : Nat) (cs : List D) : D -> D
 | .osl j n => cond (j == id && n == k) (.rsl false (z09 P e) (z31 (z0g P e) (z09 P e) k cs)) (.osl j n)
 | d => d
def seal1 (P : Program) (id : Nat) (e : TypeId) (k : Nat) (cs : List D) : D -> D
 | .agg ds => .agg (ds.map (zwr P id e k cs))
 | d => zwr P id e k cs d
def sealO (P : Program) (id : Nat) (e : TypeId) (k : Nat) (cs : List D) : HObj -> HObj
 | .box t ds => .box t (ds.map (zwr P id e k cs))
 | .row t n ds => .row t n (ds.map (zwr P id e k cs))
 | o => o
def St.given (P : Program) (st : St) (id : Nat) (e : TypeId) (k : Nat) (cs : List D) : St :=
 {t := fun i => seal1 P id e k cs (st.t i), H := fun j => cond (j == id) none ((st.H j).map (sealO P id e k cs)), nx := st.nx }
@[go_sem] theorem t_seal (st : St) (id e k : Nat) (cs : List D) (i : Nat) : (st.given P id e k cs).t i = seal1 P id e k cs (st.t i) := rfl
@[go_sem] theorem H_seal (st : St) (id e k : Nat) (cs : List D) (j : Nat) : (st.given P id e k cs).H j = cond (j == id) none ((st.H j).map (sealO P id e k cs)) := rfl
@[go_sem] theorem nx_seal (st : St) (id e k : Nat) (cs : List D) : (st.given P id e k cs).nx = st.nx := rfl
attribute [go_sem] zwr seal1 sealO
attribute [go_sem] Bool.not_true Bool.not_false decide_true decide_false List.getElem?_toArray List.map_map ne_eq not_true_eq_false not_false_eq_true List.length_map Nat.zero_le Option.some.injEq List.length_cons List.length_nil beq_self_eq_true Bool.true_and Bool.and_true true_or or_true List.drop_zero List.set_cons_zero List.set_cons_succ List.take_succ_cons List.take_zero List.drop_succ_cons D.int.injEq Prod.mk.injEq Int.toNat_natCast Nat.mul_one Nat.zero_add Nat.add_zero Int.natCast_nonneg List.getElem?_map List.length_set List.length_append List.length_replicate List.length_take List.length_drop List.take_length Bool.false_and Bool.and_false
attribute [go_sem] zwm zwj zsq nb1 nb2 nb3 nb4 ite_some resD allR valR
end Go.Proofs.YtmnabhhdiinfaaaGreatDoor.Abs
namespace Go.Proofs.YtmnabhhdiinfaaaGreatDoor.Abs
open Go.RowKit
variable {P : Program}

def zjh : HObj -> Bool
 | .box _ cs => pureD.pureL cs
 | .row _ _ cs => pureD.pureL cs
 | .map es => pureD.pureL (es.map (·.1)) && pureD.pureL (es.map (·.2))
 | .raw _ => true
def renD (g : Nat -> Nat) : D -> D
 | .osl j n => .osl (g j) n
 | .ptr j off => .ptr (g j) off
 | .mp j => .mp (g j)
 | .agg ds => .agg (renL ds)
 | .tup ds => .tup (renL ds)
 | d => d
where renL : List D -> List D
 | [] => []
 | d :: ds => renD g d :: renL ds
def okD (k : Nat) : D -> Bool
 | .osl j _ => decide (j < k)
 | .ptr j _ => decide (j < k)
 | .mp j => decide (j < k)
 | .agg ds => okL ds
 | .tup ds => okL ds
 | d => pureD d
where okL : List D -> Bool
 | [] => true
 | d :: ds => okD k d && okL ds
def zst (H : HM) (nx : Nat) : List HObj -> HM
 | [] => H
 | o :: os => zst (z0k H nx (some o)) (nx + 1) os
theorem zji : ∀ (os : List HObj) (H : HM) (nx i : Nat), zst H nx os i = if nx <= i /\ i < nx + os.length then os[i - nx]? else H i
 | [], H, nx, i => by
  simp only [zst, List.length_nil, Nat.add_zero]
  rw [if_neg (by omega)]
 | o :: os, H, nx, i => by
  simp only [zst, zji os, List.length_cons, z0k]
  by_cases h : nx + 1 <= i /\ i < nx + 1 + os.length
  ·rw [if_pos h, if_pos (by omega)]
   have : i - nx = (i - (nx + 1)) + 1 := by omega
   rw [this, List.getElem?_cons_succ]
  ·rw [if_neg h]
   by_cases h2 : i = nx
   ·subst h2
    rw [if_pos rfl, if_pos (by omega), Nat.sub_self]; rfl
   ·rw [if_neg h2, if_neg (by omega)]

def OC (P : Program) (f : FuncId) (ds : List D) (objs : List HObj) (r : D) : Prop :=
 pureD.pureL ds = true /\ okD objs.length r = true /\ (∀ o ∈ objs, zjh o = true) /\
  ∀ H nx, AC P f ds H nx fun r' H' nx' => r' = renD (fun j => nx + j) r /\ H' = zst H nx objs /\ nx' = nx + objs.length

noncomputable def z7e (s s3 : RS) (w w' : World) (k : Nat) (σ : Nat -> Nat) : RS :=
 {m := fun a => if a.block < w.heap.size then s.m a else @ite _ (∃ j, j < k /\ blockOf (s3.κ (σ j)) = some a.block) (Classical.propDecidable _) none (w'.cell? a)
  κ := fun i => if s.nx <= i /\ i < s.nx + k then s3.κ (σ (i - s.nx)) else s.κ i
  H := fun i => if s.nx <= i /\ i < s.nx + k then s3.H (σ (i - s.nx)) else s.H i
  nx := s.nx + k }

mutual
theorem zws {s s' : RS} {k : Nat} {σ τ : Nat -> Nat} (hm : ∀ a v, s.m a = some v -> s'.m a = some v)
  (hnx : ∀ j, j < k -> τ j < s'.nx) (hH : ∀ j, j < k -> s'.H (τ j) = s.H (σ j) /\ s'.κ (τ j) = s.κ (σ j)) : ∀ (d : D) (v : Value), okD k d = true -> rel s (renD σ d) v -> rel s' (renD τ d) v
 | .osl j n, v, hk, hr => by
  simp only [okD, decide_eq_true_eq] at hk
  simp only [renD, rel] at hr ⊢
  obtain ⟨_, h2, h3⟩ := hr
  obtain ⟨e1, e2⟩ := hH j hk
  exact ⟨hnx j hk, h2, by rw [e1, e2]; exact h3⟩
 | .ptr j off, v, hk, hr => by
  simp only [okD, decide_eq_true_eq] at hk
  simp only [renD, rel] at hr ⊢
  obtain ⟨_, h2, h3⟩ := hr
  obtain ⟨e1, e2⟩ := hH j hk
  exact ⟨hnx j hk, h2, by rw [e1, e2]; exact h3⟩
 | .mp j, v, hk, hr => by
  simp only [okD, decide_eq_true_eq] at hk
  simp only [renD, rel] at hr ⊢
  obtain ⟨_, h2, h3⟩ := hr
  obtain ⟨e1, e2⟩ := hH j hk
  exact ⟨hnx j hk, h2, by rw [e1, e2]; exact h3⟩
 | .agg ds, v, hk, hr => by
  simp only [okD] at hk
  simp only [renD, rel] at hr ⊢
  obtain ⟨vs, h1, h2, h3⟩ := hr
  exact ⟨vs, h1, zdt hm hnx hH ds vs hk h2, h3⟩
 | .tup ds, v, hk, hr => by
  simp only [okD] at hk
  simp only [renD, rel] at hr ⊢
  obtain ⟨vs, h1, h2⟩ := hr
  exact ⟨vs, h1, zdt hm hnx hH ds vs hk h2⟩
 | .any, v, hk, hr => by simp only [renD] at hr ⊢; exact z2o hm _ _ rfl hr
 | .int _ _, v, hk, hr => by simp only [renD] at hr ⊢; exact z2o hm _ _ rfl hr
 | .bool _, v, hk, hr => by simp only [renD] at hr ⊢; exact z2o hm _ _ rfl hr
 | .str _, v, hk, hr => by simp only [renD] at hr ⊢; exact z2o hm _ _ rfl hr
 | .nil, v, hk, hr => by simp only [renD] at hr ⊢; exact z2o hm _ _ rfl hr
 | .nptr, v, hk, hr => by simp only [renD] at hr ⊢; exact z2o hm _ _ rfl hr
 | .nfun, v, hk, hr => by simp only [renD] at hr ⊢; exact z2o hm _ _ rfl hr
 | .nmp, v, hk, hr => by simp only [renD] at hr ⊢; exact z2o hm _ _ rfl hr
 | .e0, v, hk, hr => by simp only [renD] at hr ⊢; exact z2o hm _ _ rfl hr
 | .rsl nn sz els, v, hk, hr => by simp only [okD] at hk; simp only [renD] at hr ⊢; exact z2o hm _ _ hk hr
 | .rptr d, v, hk, hr => by simp only [okD] at hk; simp only [renD] at hr ⊢; exact z2o hm _ _ hk hr
 | .fsl _ els, v, hk, hr => by simp only [okD] at hk; simp only [renD] at hr ⊢; exact z2o hm _ _ hk hr
 | .fn f cap, v, hk, hr => by simp only [okD] at hk; simp only [renD] at hr ⊢; exact z2o hm _ _ hk hr
 | .eptr .., v, hk, hr => by simp only [okD, pureD] at hk; cases hk
 | .it _, v, hk, hr => by simp only [okD, pureD] at hk; cases hk
theorem zdt {s s' : RS} {k : Nat} {σ τ : Nat -> Nat} (hm : ∀ a v, s.m a = some v -> s'.m a = some v)
  (hnx : ∀ j, j < k -> τ j < s'.nx) (hH : ∀ j, j < k -> s'.H (τ j) = s.H (σ j) /\ s'.κ (τ j) = s.κ (σ j)) : ∀ (ds : List D) (vs : List Value), okD.okL k ds = true -> relAll s (renD.renL σ ds) vs -> relAll s' (renD.renL τ ds) vs
 | [], vs, _, hr => by simpa [renD.renL, relAll] using hr
 | d :: ds, vs, hk, hr => by
  simp only [okD.okL, Bool.and_eq_true] at hk
  simp only [renD.renL, relAll] at hr ⊢
  obtain ⟨v, r, h1, h2, h3⟩ := hr
  exact ⟨v, r, h1, zws hm hnx hH d v hk.1 h2, zdt hm hnx hH ds r hk.2 h3⟩
end

theorem objOK.pure {s s' : RS} {w : World} {v : Value} {o : HObj} (hm : ∀ a v, s.m a = some v -> s'.m a = some v) (hp : zjh o = true) (h : objOK P s w v o) : objOK P s' w v o := by
 cases o with
 | box e cs =>
  obtain ⟨b, vs, h1, h2, h3, h4⟩ := h
  exact ⟨b, vs, h1, h2, z21 hm _ _ hp h3, h4⟩
 | row e n cs =>
  obtain ⟨vs, h1, h2, h3⟩ := h
  exact ⟨vs, h1, z21 hm _ _ hp h2, h3⟩
 | map es =>
  simp only [zjh, Bool.and_eq_true] at hp
  obtain ⟨r, ens, clock, h1, h2, h3, h4⟩ := h
  exact ⟨r, ens, clock, h1, h2, z21 hm _ _ hp.1 h3, z21 hm _ _ hp.2 h4⟩
 | raw q => exact h

theorem zjj {f : FuncId} {ds : List D} {objs : List HObj} {r : D} (hds : pureD.pureL ds = true) (hr : okD objs.length r = true) (ho : ∀ o ∈ objs, zjh o = true)
  (h : AC P f ds noH 0 fun d H' _ => ∃ σ : Nat -> Nat, (∀ i j, i < objs.length -> j < objs.length -> σ i = σ j -> i = j) /\ d = renD σ r /\ ∀ j, j < objs.length -> H' (σ j) = objs[j]?) : OC P f ds objs r := by
 refine ⟨hds, hr, ho, fun H nx => ⟨h.1, fun s w vs hH hnx hRH hrel => ?_⟩⟩
 subst hH; subst hnx
 let s2 : RS := { s with H := noH, nx := 0 }
 have hno : ∀ k, ¬ owned s2 k := by rintro k ⟨id, hid, _⟩; exact absurd hid (Nat.not_lt_zero _)
 have hRH2 : RH P s2 w := ⟨fun a v hmm => ⟨(hRH.mem a v hmm).1, hno _⟩, fun id o ho => (by cases ho), fun i j hi => (hi rfl).elim, fun g => z2o (s := s) (s' := s2) (fun a v hm => hm) _ _ (z76 g) (hRH.glob g)⟩
 have hr2 : relAll s2 ds vs := z21 (s := s) (s' := s2) (fun a v hm => hm) ds vs hds hrel
 refine (h.2 s2 w vs rfl rfl hRH2 hr2).mono fun e w' ⟨v, d, s3, he, ⟨σ, hinj, hd, hobj⟩, hstep, hRH3, hres⟩ => ?_
 subst hd
 have hold : ∀ k, k < w.heap.size -> w'.heap[k]? = w.heap[k]? := fun k hk => hstep.keep k hk (hno k)
 have hnew3 : ∀ k, owned s3 k -> w.heap.size <= k := fun k hk => (hstep.own k hk).elim (fun h => (hno k h).elim) id
 have hlive : ∀ j, j < objs.length -> s3.H (σ j) ≠ none := fun j hj => by rw [hobj j hj, List.getElem?_eq_getElem hj]; simp
 have hown3 : ∀ j b, j < objs.length -> blockOf (s3.κ (σ j)) = some b -> owned s3 b := fun j b hj hb => ⟨σ j, hRH3.fresh (hlive j hj), hlive j hj, hb⟩
 let s' := z7e s s3 w w' objs.length σ
 have hm3 : ∀ a u, s3.m a = some u -> s'.m a = some u := by
  intro a u hu
  show (z7e s s3 w w' objs.length σ).m a = some u
  simp only [z7e]
  rcases hstep.new a u hu with h1 | h1 | h1
  ·have hlt := hRH.mem_lt (a := a) (v := u) h1
   rw [if_pos hlt]; exact h1
  ·rw [if_neg (by omega), if_neg]
   ·exact (hRH3.mem a u hu).1
   ·rintro ⟨j, hj, hb⟩
    exact (hRH3.mem a u hu).2 (hown3 j _ hj hb)
  ·exact (hno _ h1).elim
 have hm0 : ∀ a u, s.m a = some u -> s'.m a = some u := by
  intro a u hu
  show (z7e s s3 w w' objs.length σ).m a = some u
  simp only [z7e]
  rw [if_pos (hRH.mem_lt hu)]; exact hu
 have hHnew : ∀ j, j < objs.length -> s'.H (s.nx + j) = s3.H (σ j) /\ s'.κ (s.nx + j) = s3.κ (σ j) := by
  intro j hj
  show (z7e s s3 w w' objs.length σ).H (s.nx + j) = _ /\ (z7e s s3 w w' objs.length σ).κ (s.nx + j) = _
  simp only [z7e]
  rw [if_pos (by omega), if_pos (by omega), Nat.add_sub_cancel_left]
  exact ⟨rfl, rfl⟩
 have hHold : ∀ i, ¬ (s.nx <= i /\ i < s.nx + objs.length) -> s'.H i = s.H i /\ s'.κ i = s.κ i := by
  intro i hi
  show (z7e s s3 w w' objs.length σ).H i = _ /\ (z7e s s3 w w' objs.length σ).κ i = _
  simp only [z7e]
  rw [if_neg hi, if_neg hi]
  exact ⟨rfl, rfl⟩
 have hHlow : ∀ i, i < s.nx -> s'.H i = s.H i /\ s'.κ i = s.κ i := fun i hi => hHold i (by omega)
 have hlate : Later s s' := ⟨by show s.nx <= s.nx + _; omega, hm0, fun id hid => by
  obtain ⟨e1, e2⟩ := hHlow id hid
  rw [e1, e2]; exact objLe.refl _ _⟩
 have hown : ∀ k, owned s' k -> owned s k \/ (w.heap.size <= k /\ ∃ j, j < objs.length /\ blockOf (s3.κ (σ j)) = some k) := by
  rintro k ⟨id, hid, hH, hb⟩
  by_cases hi : s.nx <= id /\ id < s.nx + objs.length
  ·obtain ⟨j, rfl⟩ : ∃ j, id = s.nx + j := ⟨id - s.nx, by omega⟩
   have hj : j < objs.length := by omega
   rw [(hHnew j hj).2] at hb
   exact .inr ⟨hnew3 k (hown3 j k hj hb), j, hj, hb⟩
  ·obtain ⟨e1, e2⟩ := hHold id hi
   rw [e1] at hH; rw [e2] at hb
   exact .inl ⟨id, hRH.fresh hH, hH, hb⟩
 have hfun : s'.H = zst s.H s.nx objs := by
  funext i
  rw [zji]
  by_cases hi : s.nx <= i /\ i < s.nx + objs.length
  ·obtain ⟨j, rfl⟩ : ∃ j, i = s.nx + j := ⟨i - s.nx, by omega⟩
   have hj : j < objs.length := by omega
   rw [if_pos hi, (hHnew j hj).1, hobj j hj, Nat.add_sub_cancel_left]
  ·rw [if_neg hi, (hHold i hi).1]
 refine ⟨v, renD (fun j => s.nx + j) r, s', he, ⟨rfl, hfun, rfl⟩, ?_, ?_, zws hm3 (fun j hj => by show s.nx + j < s.nx + _; omega) hHnew r v hr hres⟩
 ·refine ⟨hstep.os, hstep.tape, hstep.output, hstep.size, hlate.nx, hm0, fun a u hu => ?_, hlate.objs, fun k hk _ => hold k hk, fun k hk => ?_⟩
  ·by_cases hlt : a.block < w.heap.size
   ·refine .inl ?_
    have hu' : (z7e s s3 w w' objs.length σ).m a = some u := hu
    simp only [z7e] at hu'
    rw [if_pos hlt] at hu'; exact hu'
   ·exact .inr (.inl (by omega))
  ·rcases hown k hk with h1 | ⟨h1, _⟩
   ·exact .inl h1
   ·exact .inr h1
 ·refine ⟨fun a u hu => ?_, fun id o hido => ?_, fun i j hi hj hij hbi => ?_, fun g => rel.later hlate _ _ (hRH.glob g)⟩
  ·have hu' : (z7e s s3 w w' objs.length σ).m a = some u := hu
   simp only [z7e] at hu'
   split at hu'
   ·rename_i hlt
    obtain ⟨h1, h2⟩ := hRH.mem a u hu'
    refine ⟨by rw [z51 (hold _ hlt)]; exact h1, fun h3 => ?_⟩
    rcases hown _ h3 with h4 | ⟨h4, _⟩
    ·exact h2 h4
    ·omega
   ·rename_i hlt
    split at hu'
    ·cases hu'
    ·rename_i hex
     refine ⟨hu', fun h3 => ?_⟩
     rcases hown _ h3 with h4 | ⟨_, h4⟩
     ·exact hlt (hRH.owned_lt h4)
     ·exact hex h4
  ·by_cases hi : s.nx <= id /\ id < s.nx + objs.length
   ·obtain ⟨j, rfl⟩ : ∃ j, id = s.nx + j := ⟨id - s.nx, by omega⟩
    have hj : j < objs.length := by omega
    obtain ⟨e1, e2⟩ := hHnew j hj
    rw [e1, hobj j hj, List.getElem?_eq_getElem hj] at hido
    cases hido
    refine ⟨by show s.nx + j < s.nx + _; omega, ?_⟩
    rw [e2]
    exact objOK.pure hm3 (ho _ (List.getElem_mem hj)) (hRH3.obj (σ j) _ (by rw [hobj j hj, List.getElem?_eq_getElem hj])).2
   ·obtain ⟨e1, e2⟩ := hHold id hi
    rw [e1] at hido
    obtain ⟨h1, h2⟩ := hRH.obj id o hido
    refine ⟨by show id < s.nx + _; omega, ?_⟩
    rw [e2]
    exact h2.mono hlate fun b hb' => hold b (h2.lt hb')
  ·by_cases h1 : s.nx <= i /\ i < s.nx + objs.length
   ·obtain ⟨i', rfl⟩ : ∃ j, i = s.nx + j := ⟨i - s.nx, by omega⟩
    have hi' : i' < objs.length := by omega
    rw [(hHnew i' hi').2] at hbi ⊢
    cases hb : blockOf (s3.κ (σ i')) with
    | none => exact (hbi hb).elim
    | some b =>
     have hb3 := hnew3 b (hown3 i' b hi' hb)
     by_cases h2 : s.nx <= j /\ j < s.nx + objs.length
     ·obtain ⟨j', rfl⟩ : ∃ j', j = s.nx + j' := ⟨j - s.nx, by omega⟩
      have hj' : j' < objs.length := by omega
      rw [(hHnew j' hj').2, <- hb]
      exact hRH3.apart (σ i') (σ j') (hlive i' hi') (hlive j' hj') (fun e => hij (by rw [hinj i' j' hi' hj' e])) (by rw [hb]; simp)
     ·obtain ⟨e1, e2⟩ := hHold j h2
      rw [e1] at hj; rw [e2]
      intro e
      have := hRH.owned_lt (k := b) ⟨j, hRH.fresh hj, hj, e.symm⟩
      omega
   ·obtain ⟨e1, e2⟩ := hHold i h1
    rw [e1] at hi; rw [e2] at hbi ⊢
    by_cases h2 : s.nx <= j /\ j < s.nx + objs.length
    ·obtain ⟨j', rfl⟩ : ∃ j', j = s.nx + j' := ⟨j - s.nx, by omega⟩
     have hj' : j' < objs.length := by omega
     rw [(hHnew j' hj').2]
     cases hb : blockOf (s.κ i) with
     | none => exact (hbi hb).elim
     | some b =>
      intro e
      have h3 := hnew3 b (hown3 j' b hj' e.symm)
      have := hRH.owned_lt (k := b) ⟨i, hRH.fresh hi, hi, hb⟩
      omega
    ·obtain ⟨e3, e4⟩ := hHold j h2
     rw [e3] at hj; rw [e4]
     exact hRH.apart i j hi hj hij hbi

section
variable {st : St} {dst : Option Nat} {n : FuncId} {cap args : List D} {g : List Oper -> (St -> Prop) -> St -> Prop} {rest : List Oper} {K : St -> Prop}
theorem OC.ac {f : FuncId} {ds : List D} {objs : List HObj} {r : D} (h : OC P f ds objs r) {H : HM} {nx : Nat} {K : D -> HM -> Nat -> Prop} (hk : K (renD (fun j => nx + j) r) (zst H nx objs) (nx + objs.length)) : AC P f ds H nx K :=
 (h.2.2.2 H nx).mono fun _ _ _ ⟨h1, h2, h3⟩ => by subst h1; subst h2; subst h3; exact hk
theorem zjk {objs : List HObj} {r : D} (h : OC P n (args ++ cap) objs r) (hk : g rest K ((st.withH (zst st.H st.nx objs) (st.nx + objs.length)).put dst (renD (fun j => st.nx + j) r))) : zo0 P (.fn n cap) args g rest K st dst :=
 z1m (h.ac hk)
def isRow : HObj -> Bool
 | .row .. => true
 | _ => false
theorem zsu (st : St) {objs : List HObj} (hr : objs.all isRow = true) : z9p st (zst st.H st.nx objs) (st.nx + objs.length) := by
 refine ⟨Nat.le_add_right _ _, fun id => ⟨fun hlt e cs h => ?_, fun hlt e cs h => ?_⟩⟩
 ·rw [zji, if_neg (by omega)]; exact h
 ·rw [zji] at h
  split at h
  ·rename_i hin
   obtain ⟨hl, he⟩ := List.getElem?_eq_some_iff.1 h
   have := List.all_eq_true.1 hr _ (List.getElem_mem hl)
   rw [he] at this; cases this
  ·exact ⟨by omega, h⟩
theorem z94 {own : List Nat} {objs : List HObj} {r : D} (h : OC P n (args ++ cap) objs r) (h0 : z0o 5000000 own dst = false) (hm : z0o 4000000 own dst = true) (hr : objs.all isRow = true)
  (hk : g rest K ((st.withH (zst st.H st.nx objs) (st.nx + objs.length)).put dst (renD (fun j => st.nx + j) r))) (ht : tcM own dst = none := by rfl) (hN : z0o 10000000 own dst = false := by rfl) : zli P own (.fn n cap) args g rest K st dst :=
 .inr (.inr ⟨h0, hm, _, _, _, h.2.2.2 st.H st.nx, .inl ⟨ht, .inl ⟨hN, zsu st hr⟩⟩, hk⟩)
end
theorem OC.pc {f : FuncId} {ds : List D} {objs : List HObj} {r r' : D} (k : Nat) (h : OC P f ds objs r) (hp : pureD r' = true) (hs : z2y P (zst noH 0 objs) k (renD (fun j => 0 + j) r) = some r') : PC P f ds r' :=
 z1g k h.1 hp (h.ac ⟨_, hs, Le.refl _⟩)
attribute [go_sem] zst renD renD.renL
end Go.Proofs.YtmnabhhdiinfaaaGreatDoor.Abs
namespace Go.Proofs.YtmnabhhdiinfaaaGreatDoor.Abs
open Go.RowKit
variable {P : Program}

def lowD (n : Nat) : D -> Bool
 | .osl j _ => decide (j < n)
 | .ptr j _ => decide (j < n)
 | .eptr j _ _ => decide (j < n)
 | .mp j => decide (j < n)
 | .it j => decide (j < n)
 | .agg ds => lowL ds
 | .tup ds => lowL ds
 | .rsl _ _ els => lowL els
 | .fsl _ els => lowL els
 | .rptr d => lowD n d
 | .fn _ cap => lowL cap
 | _ => true
where lowL : List D -> Bool
 | [] => true
 | d :: ds => lowD n d && lowL ds
def lowO (n : Nat) : HObj -> Bool
 | .box _ cs => lowD.lowL n cs
 | .row _ _ cs => lowD.lowL n cs
 | .map es => lowD.lowL n (es.map (·.1)) && lowD.lowL n (es.map (·.2))
 | .raw _ => true
mutual
theorem zay (n : Nat) : ∀ d, pureD d = true -> lowD n d = true
 | .agg ds, h => by simp only [pureD] at h; simp only [lowD]; exact z6c n ds h
 | .tup ds, h => by simp only [pureD] at h; simp only [lowD]; exact z6c n ds h
 | .rsl _ _ els, h => by simp only [pureD] at h; simp only [lowD]; exact z6c n els h
 | .fsl _ els, h => by simp only [pureD] at h; simp only [lowD]; exact z6c n els h
 | .rptr d, h => by simp only [pureD] at h; simp only [lowD]; exact zay n d h
 | .fn _ cap, h => by simp only [pureD] at h; simp only [lowD]; exact z6c n cap h
 | .any, _ => rfl
 | .int _ _, _ => rfl
 | .bool _, _ => rfl
 | .str _, _ => rfl
 | .nil, _ => rfl
 | .nptr, _ => rfl
 | .nfun, _ => rfl
 | .nmp, _ => rfl
 | .e0, _ => rfl
 | .osl .., h => by cases h
 | .ptr .., h => by cases h
 | .eptr .., h => by cases h
 | .mp _, h => by cases h
 | .it _, h => by cases h
theorem z6c (n : Nat) : ∀ ds, pureD.pureL ds = true -> lowD.lowL n ds = true
 | [], _ => rfl
 | d :: ds, h => by
  simp only [pureD.pureL, Bool.and_eq_true] at h
  simp only [lowD.lowL, zay n d h.1, z6c n ds h.2, Bool.and_self]
end
mutual
theorem zpy {s : RS} : ∀ (d : D) (v : Value), rel s d v -> lowD s.nx d = true
 | .agg ds, v, h => by simp only [rel] at h; obtain ⟨vs, _, h2, _⟩ := h; simp only [lowD]; exact z64 ds vs h2
 | .tup ds, v, h => by simp only [rel] at h; obtain ⟨vs, _, h2⟩ := h; simp only [lowD]; exact z64 ds vs h2
 | .rsl _ _ els, v, h => by
  simp only [rel] at h
  simp only [lowD]
  rcases h with ⟨_, h, _⟩ | ⟨_, _, vs, _, _, _, h4, _⟩
  ·rw [h]; rfl
  ·exact z64 els vs h4
 | .fsl _ els, v, h => by
  simp only [rel] at h
  simp only [lowD]
  rcases h with ⟨h, _⟩ | ⟨_, vs, _, _, h4, _⟩
  ·rw [h]; rfl
  ·exact z64 els vs h4
 | .rptr d, v, h => by simp only [rel] at h; obtain ⟨_, u, _, h2, _⟩ := h; simp only [lowD]; exact zpy d u h2
 | .fn _ cap, v, h => by simp only [rel] at h; obtain ⟨vs, _, h2⟩ := h; simp only [lowD]; exact z64 cap vs h2
 | .any, _, _ => rfl
 | .int _ _, _, _ => rfl
 | .bool _, _, _ => rfl
 | .str _, _, _ => rfl
 | .nil, _, _ => rfl
 | .nptr, _, _ => rfl
 | .nfun, _, _ => rfl
 | .nmp, _, _ => rfl
 | .e0, _, _ => rfl
 | .osl .., v, h => by simp only [rel] at h; simp only [lowD, decide_eq_true_iff]; exact h.1
 | .ptr .., v, h => by simp only [rel] at h; simp only [lowD, decide_eq_true_iff]; exact h.1
 | .eptr .., v, h => by simp only [rel] at h; simp only [lowD, decide_eq_true_iff]; exact h.1
 | .mp _, v, h => by simp only [rel] at h; simp only [lowD, decide_eq_true_iff]; exact h.1
 | .it _, v, h => by simp only [rel] at h; simp only [lowD, decide_eq_true_iff]; exact h.1
theorem z64 {s : RS} : ∀ (ds : List D) (vs : List Value), relAll s ds vs -> lowD.lowL s.nx ds = true
 | [], _, _ => rfl
 | d :: ds, vs, h => by
  simp only [relAll] at h
  obtain ⟨v, r, _, h1, h2⟩ := h
  simp only [lowD.lowL, zpy d v h1, z64 ds r h2, Bool.and_self]
end
theorem zlz {s : RS} {w : World} {v : Value} {o : HObj} (h : objOK P s w v o) : lowO s.nx o = true := by
 cases o with
 | box e cs => obtain ⟨_, vs, _, _, h, _⟩ := h; exact z64 cs vs h
 | row e n cs => obtain ⟨vs, _, h, _⟩ := h; exact z64 cs vs h
 | map es => obtain ⟨_, _, _, _, _, h1, h2⟩ := h; simp only [lowO, z64 _ _ h1, z64 _ _ h2, Bool.and_self]
 | raw o => rfl
mutual
theorem zjl {s s' : RS} {n : Nat} (hm : ∀ a v, s.m a = some v -> s'.m a = some v) (hn : n <= s'.nx) (hH : ∀ id, id < n -> s'.H id = s.H id /\ s'.κ id = s.κ id) :
  ∀ (d : D) (v : Value), lowD n d = true -> rel s d v -> rel s' d v
 | .agg ds, v, hl, h => by
  simp only [lowD] at hl; simp only [rel] at h ⊢
  obtain ⟨vs, h1, h2, h3⟩ := h
  exact ⟨vs, h1, z3u hm hn hH ds vs hl h2, h3⟩
 | .tup ds, v, hl, h => by
  simp only [lowD] at hl; simp only [rel] at h ⊢
  obtain ⟨vs, h1, h2⟩ := h
  exact ⟨vs, h1, z3u hm hn hH ds vs hl h2⟩
 | .rsl nn sz els, v, hl, h => by
  simp only [lowD] at hl; simp only [rel] at h ⊢
  rcases h with h | ⟨a, cap, vs, h1, h2, h3, h4, h5⟩
  ·exact .inl h
  ·exact .inr ⟨a, cap, vs, h1, h2, h3, z3u hm hn hH els vs hl h4, fun i u hu => ⟨(h5 i u hu).1, (h5 i u hu).2.later hm⟩⟩
 | .fsl sz els, v, hl, h => by
  simp only [lowD] at hl; simp only [rel] at h ⊢
  rcases h with h | ⟨a, vs, h1, h3, h4, h5⟩
  ·exact .inl h
  exact .inr ⟨a, vs, h1, h3, z3u hm hn hH els vs hl h4, fun i u hu => ⟨(h5 i u hu).1, (h5 i u hu).2.later hm⟩⟩
 | .rptr d, v, hl, h => by
  simp only [lowD] at hl; simp only [rel] at h ⊢
  obtain ⟨a, u, h1, h2, h3⟩ := h
  exact ⟨a, u, h1, zjl hm hn hH d u hl h2, h3.later hm⟩
 | .fn f cap, v, hl, h => by
  simp only [lowD] at hl; simp only [rel] at h ⊢
  obtain ⟨vs, h1, h2⟩ := h
  exact ⟨vs, h1, z3u hm hn hH cap vs hl h2⟩
 | .any, _, _, _ => by simp [rel]
 | .int _ _, v, _, h => by simpa [rel] using h
 | .bool _, v, _, h => by simpa [rel] using h
 | .str _, v, _, h => by simpa [rel] using h
 | .nil, v, _, h => by simpa [rel] using h
 | .nptr, v, _, h => by simpa [rel] using h
 | .nfun, v, _, h => by simpa [rel] using h
 | .nmp, v, _, h => by simpa [rel] using h
 | .e0, v, _, h => by simpa [rel] using h
 | .osl j k, v, hl, h => by
  simp only [lowD, decide_eq_true_iff] at hl; simp only [rel] at h ⊢
  rw [(hH j hl).1, (hH j hl).2]; exact ⟨by omega, h.2⟩
 | .ptr j k, v, hl, h => by
  simp only [lowD, decide_eq_true_iff] at hl; simp only [rel] at h ⊢
  rw [(hH j hl).1, (hH j hl).2]; exact ⟨by omega, h.2⟩
 | .eptr j k o, v, hl, h => by
  simp only [lowD, decide_eq_true_iff] at hl; simp only [rel] at h ⊢
  rw [(hH j hl).1, (hH j hl).2]; exact ⟨by omega, h.2⟩
 | .mp j, v, hl, h => by
  simp only [lowD, decide_eq_true_iff] at hl; simp only [rel] at h ⊢
  rw [(hH j hl).1, (hH j hl).2]; exact ⟨by omega, h.2⟩
 | .it j, v, hl, h => by
  simp only [lowD, decide_eq_true_iff] at hl; simp only [rel] at h ⊢
  rw [(hH j hl).1, (hH j hl).2]; exact ⟨by omega, h.2⟩
theorem z3u {s s' : RS} {n : Nat} (hm : ∀ a v, s.m a = some v -> s'.m a = some v) (hn : n <= s'.nx) (hH : ∀ id, id < n -> s'.H id = s.H id /\ s'.κ id = s.κ id) :
  ∀ (ds : List D) (vs : List Value), lowD.lowL n ds = true -> relAll s ds vs -> relAll s' ds vs
 | [], vs, _, h => by simpa [relAll] using h
 | d :: ds, vs, hl, h => by
  simp only [lowD.lowL, Bool.and_eq_true] at hl
  simp only [relAll] at h ⊢
  obtain ⟨v, r, h1, h2, h3⟩ := h
  exact ⟨v, r, h1, zjl hm hn hH d v hl.1 h2, z3u hm hn hH ds r hl.2 h3⟩
end
theorem zm0 {s s' : RS} {n : Nat} {w : World} {v : Value} {o : HObj} (hm : ∀ a v, s.m a = some v -> s'.m a = some v) (hn : n <= s'.nx) (hH : ∀ id, id < n -> s'.H id = s.H id /\ s'.κ id = s.κ id)
  (hl : lowO n o = true) (h : objOK P s w v o) : objOK P s' w v o := by
 cases o with
 | box e cs =>
  obtain ⟨b, vs, h1, h2, h3, h4⟩ := h
  exact ⟨b, vs, h1, h2, z3u hm hn hH _ _ hl h3, h4⟩
 | row e k cs =>
  obtain ⟨vs, h1, h2, h3⟩ := h
  exact ⟨vs, h1, z3u hm hn hH _ _ hl h2, h3⟩
 | map es =>
  simp only [lowO, Bool.and_eq_true] at hl
  obtain ⟨r, ens, c, h1, h2, h3, h4⟩ := h
  exact ⟨r, ens, c, h1, h2, z3u hm hn hH _ _ hl.1 h3, z3u hm hn hH _ _ hl.2 h4⟩
 | raw o => exact h
def cutH (n : Nat) (H : HM) : HM := fun id => if id < n then H id else none
theorem zoc {f : FuncId} {ds : List D} {H : HM} {nx : Nat} {K : D -> HM -> Nat -> Prop} (h : AC P f ds H nx K)
  (hk : ∀ r H' nx', K r H' nx' -> lowD nx r = true /\ ∀ id o, id < nx -> H' id = some o -> H id = some o \/ lowO nx o = true) :
  AC P f ds H nx fun r H2 nx2 => nx2 = nx /\ ∃ H' nx', K r H' nx' /\ H2 = cutH nx H' := by
 refine ⟨h.1, fun s w vs h1 h2 h3 h4 => (h.2 s w vs h1 h2 h3 h4).mono fun e w' ⟨v, r, s', he, J, hstep, hRH, hr⟩ => ?_⟩
 subst h1; subst h2
 obtain ⟨hl, hlo⟩ := hk _ _ _ J
 let s2 : RS := { s' with H := cutH s.nx s'.H, nx := s.nx }
 have hH : ∀ id, id < s.nx -> s2.H id = s'.H id /\ s2.κ id = s'.κ id := fun id hid => ⟨if_pos hid, rfl⟩
 have hcut : ∀ (d : D) (v : Value), lowD s.nx d = true -> rel s' d v -> rel s2 d v := zjl (s := s') (s' := s2) (fun _ _ h => h) (Nat.le_refl _) hH
 have hown : ∀ k, owned s2 k -> owned s' k := fun k ⟨id, hid, h5, h6⟩ => by
  rw [(hH id hid).1] at h5
  exact ⟨id, Nat.lt_of_lt_of_le hid hstep.nx, h5, h6⟩
 refine ⟨v, r, s2, he, ⟨rfl, s'.H, s'.nx, J, rfl⟩, ?_, ?_, hcut r v hl hr⟩
 ·exact ⟨hstep.os, hstep.tape, hstep.output, hstep.size, Nat.le_refl _, hstep.mem, hstep.new, fun id hid => by rw [(hH id hid).1]; exact hstep.objs id hid, hstep.keep, fun k hk' => hstep.own k (hown k hk')⟩
 ·refine ⟨fun a u hm => ⟨(hRH.mem a u hm).1, fun ho => (hRH.mem a u hm).2 (hown _ ho)⟩, fun id o ho => ?_, fun i j hi hj hij hb => ?_, fun g => ?_⟩
  ·have hid : id < s.nx := by
    rcases Nat.lt_or_ge id s.nx with h9 | h9
    ·exact h9
    ·have : s2.H id = none := if_neg (by omega)
     rw [this] at ho; cases ho
   rw [(hH id hid).1] at ho
   refine ⟨hid, zm0 (s := s') (s' := s2) (n := s.nx) (fun _ _ h => h) (Nat.le_refl _) hH ?_ (hRH.obj id o ho).2⟩
   rcases hlo id o hid ho with h9 | h9
   ·exact zlz (s := s) (h3.obj id o h9).2
   ·exact h9
  ·have lt : ∀ i, s2.H i ≠ none -> i < s.nx /\ s'.H i ≠ none := fun i hi => by
    rcases Nat.lt_or_ge i s.nx with h9 | h9
    ·exact ⟨h9, by rw [<- (hH i h9).1]; exact hi⟩
    ·exact (hi (if_neg (by omega))).elim
   exact hRH.apart i j (lt i hi).2 (lt j hj).2 hij hb
  ·exact hcut _ _ (zay _ _ (z76 g)) (hRH.glob g)

def Eff {σ : Type} (P : Program) (f : FuncId) (ds : List D) (lo : Nat) (I : σ -> HM -> Prop) (s s' : σ) (r : D) : Prop :=
 ∀ H nx, lo <= nx -> I s H -> AC P f ds H nx fun r' H' nx' => r' = r /\ nx' = nx /\ I s' H' /\ ∀ id, lo <= id -> H' id = H id
structure Low {σ : Type} (lo : Nat) (I : σ -> HM -> Prop) : Prop where
 loc : ∀ s H H', (∀ id, id < lo -> H' id = H id) -> I s H -> I s H'
 low : ∀ s H, I s H -> ∀ id o, id < lo -> H id = some o -> lowO lo o = true
mutual
theorem zm1 {m n : Nat} (h : m <= n) : ∀ d, lowD m d = true -> lowD n d = true
 | .agg ds, hl => by simp only [lowD] at hl ⊢; exact z4q h ds hl
 | .tup ds, hl => by simp only [lowD] at hl ⊢; exact z4q h ds hl
 | .rsl _ _ els, hl => by simp only [lowD] at hl ⊢; exact z4q h els hl
 | .fsl _ els, hl => by simp only [lowD] at hl ⊢; exact z4q h els hl
 | .rptr d, hl => by simp only [lowD] at hl ⊢; exact zm1 h d hl
 | .fn _ cap, hl => by simp only [lowD] at hl ⊢; exact z4q h cap hl
 | .any, _ => rfl
 | .int _ _, _ => rfl
 | .bool _, _ => rfl
 | .str _, _ => rfl
 | .nil, _ => rfl
 | .nptr, _ => rfl
 | .nfun, _ => rfl
 | .nmp, _ => rfl
 | .e0, _ => rfl
 | .osl .., hl => by simp only [lowD, decide_eq_true_iff] at hl ⊢; omega
 | .ptr .., hl => by simp only [lowD, decide_eq_true_iff] at hl ⊢; omega
 | .eptr .., hl => by simp only [lowD, decide_eq_true_iff] at hl ⊢; omega
 | .mp _, hl => by simp only [lowD, decide_eq_true_iff] at hl ⊢; omega
 | .it _, hl => by simp only [lowD, decide_eq_true_iff] at hl ⊢; omega
theorem z4q {m n : Nat} (h : m <= n) : ∀ ds, lowD.lowL m ds = true -> lowD.lowL n ds = true
 | [], _ => rfl
 | d :: ds, hl => by
  simp only [lowD.lowL, Bool.and_eq_true] at hl ⊢
  exact ⟨zm1 h d hl.1, z4q h ds hl.2⟩
end
theorem zwt {m n : Nat} (h : m <= n) {o : HObj} (hl : lowO m o = true) : lowO n o = true := by
 cases o with
 | box e cs => exact z4q h cs hl
 | row e k cs => exact z4q h cs hl
 | map es => simp only [lowO, Bool.and_eq_true] at hl ⊢; exact ⟨z4q h _ hl.1, z4q h _ hl.2⟩
 | raw o => rfl
theorem zg7 {σ : Type} {f : FuncId} {ds : List D} {lo : Nat} {I : σ -> HM -> Prop} {s s' : σ} {r : D} (hI : Low lo I) (hr : pureD r = true)
  (h : ∀ H nx, lo <= nx -> I s H -> AC P f ds H nx fun r' H' _ => r' = r /\ I s' H' /\ ∀ id, lo <= id -> id < nx -> H' id = H id) : Eff P f ds lo I s s' r := by
 intro H nx hlo hs
 have h1 := zoc (h H nx hlo hs) (fun r' H' nx' ⟨hr', hi, hs'⟩ => by
  subst hr'
  refine ⟨zay _ _ hr, fun id o hid ho => ?_⟩
  rcases Nat.lt_or_ge id lo with h9 | h9
  ·exact .inr (zwt hlo (hI.low s' H' hi id o h9 ho))
  ·exact .inl (by rw [<- hs' id h9 hid]; exact ho))
 refine ⟨h1.1, fun s w vs e1 e2 e3 e4 => (h1.2 s w vs e1 e2 e3 e4).mono fun e w' ⟨v, r1, s1, he, ⟨hnx, H', nx', ⟨hr', hi, hs'⟩, hcut⟩, hstep, hRH, hrel⟩ => ⟨v, r1, s1, he, ⟨hr', hnx, ?_, fun id hid => ?_⟩, hstep, hRH, hrel⟩⟩
 ·refine hI.loc _ H' _ (fun id hid => ?_) hi
  rw [hcut]; exact if_pos (by omega)
 ·rw [hcut]
  unfold cutH
  split
  ·rename_i hlt; exact hs' id hid hlt
  ·rename_i hlt
   cases hH : H id with
   | none => rfl
   | some o =>
    have := (e3.obj id o (by rw [e1]; exact hH)).1
    omega
theorem PC.eff {f : FuncId} {ds : List D} {r : D} (h : PC P f ds r) {lo : Nat} {σ : Type} {I : σ -> HM -> Prop} (s : σ) : Eff P f ds lo I s s r := fun H nx _ hs =>
 (h.rc H nx).mono fun _ _ _ ⟨h1, h2, h3⟩ => ⟨h1, h3, by rw [h2]; exact hs, fun id _ => by rw [h2]⟩
theorem zci {σ : Type} {lo : Nat} {I : σ -> HM -> Prop} {s s' : σ} {r : D} {n : FuncId} {args cap : List D} {g : List Oper -> (St -> Prop) -> St -> Prop} {rest : List Oper} {K : St -> Prop} {st : St} {dst : Option Nat}
  (h : Eff P n (args ++ cap) lo I s s' r) (hlo : lo <= st.nx) (hs : I s st.H)
  (hk : ∀ H', I s' H' -> (∀ id, lo <= id -> H' id = st.H id) -> g rest K ((st.withH H' st.nx).put dst r)) : zo0 P (.fn n cap) args g rest K st dst :=
 z1m ((h st.H st.nx hlo hs).mono fun r' H' nx' ⟨h1, h2, h3, h4⟩ => by subst h1; subst h2; exact hk H' h3 h4)
theorem zwu {st : St} {b : Nat} {e : TypeId} (e' : TypeId) (hb : st.H b = some (.box e [.nil])) :
  SealTo P st { st with H := z0k (z0k st.H st.nx (some (.row e' 0 []))) b (some (.box e [.osl st.nx 0])), nx := st.nx + 1 } := by
 intro N s a w hf
 have hHb : s.H b = some (.box e [.nil]) := by rw [hf.H]; exact hb
 have hne : b ≠ s.nx := by have := (hf.heap.obj b _ hHb).1; omega
 obtain ⟨g1, g2⟩ := z7k hf.heap (Grew.refl w) (.row e' 0 []) (.slice none 0 0) (fun b hb => by cases hb) ⟨[], ⟨by simp, .inl ⟨rfl, rfl⟩⟩, z15, by intro v hv; cases hv⟩
 have hb2 : (s.add (.slice none 0 0) (.row e' 0 [])).H b = some (.box e [.nil]) := by simp [RS.add, z0k, hne, hHb]
 obtain ⟨_, q2⟩ := g2.obj b _ hb2
 obtain ⟨g3, g4⟩ := z87 (w' := w) g2 b _ (.box e [.osl s.nx 0]) ((s.add (.slice none 0 0) (.row e' 0 [])).κ b) hb2 rfl rfl rfl (Nat.le_refl _) (fun _ _ _ => rfl) (.inr ⟨_, rfl, rfl⟩) (fun b hb => .inl hb) (fun hl => by
  obtain ⟨b', vs, u1, u2, u3, u4⟩ := q2
  refine ⟨b', vs, u1, u2, ?_, u4⟩
  simp only [relAll, rel] at u3
  obtain ⟨v, r, rfl, rfl, rfl⟩ := u3
  refine z0w ?_ z15
  simp only [rel]
  refine ⟨by simp [RS.set, RS.add], ⟨_, _, rfl⟩, fun e2 k cs hH => ⟨Nat.zero_le _, fun _ => ?_⟩⟩
  simp only [RS.set, RS.add]
  rw [if_neg (fun h => hne h.symm)]
  simp)
 refine ⟨_, ⟨?_, ?_, hf.size, hf.defers, fun i => rel.later (g1.trans g3).later _ _ (hf.tmps i), g4⟩, g1.trans g3⟩
 ·simp only [RS.set, RS.add, hf.H, hf.nx]
 ·simp only [RS.set, RS.add, hf.nx]
theorem z3j {id : Nat} {l : List Oper} {b : Code} {own : List Nat} {Q : Exit -> St -> Prop} {st : St} (h : ∀ K : St -> Prop, (∀ st st', SealTo P st st' -> awp P own b Q st' -> K st) -> z2p P own (l.map (·.dst)) l K st) : awp P own (.seq (.region id l.toArray false) b) Q st :=
 ⟨fun h => (by cases h), fun _ => h _ fun _ st' hs hb => ⟨st', hs, hb⟩⟩
theorem zpz {σ : Type} {lo : Nat} (objs : σ -> List HObj) (hl : ∀ s, (objs s).length = lo) (ho : ∀ s, ∀ o ∈ objs s, lowO lo o = true) : Low lo fun s H => ∀ j, j < lo -> H j = (objs s)[j]? :=
 ⟨fun s H H' h hs j hj => (h j hj).trans (hs j hj), fun s H hs id o hid hH => by
  rw [hs id hid] at hH
  exact ho s o (List.mem_of_getElem? hH)⟩
end Go.Proofs.YtmnabhhdiinfaaaGreatDoor.Abs
namespace Go.Proofs.YtmnabhhdiinfaaaGreatDoor.Abs
open Go.RowKit
variable {P : Program}
theorem zjm {s : RS} {w : World} (hRH : RH P s w) {H' : HM} (hk : ∀ id, id < s.nx -> H' id = s.H id) : cutH s.nx H' = s.H := by
 funext id
 unfold cutH
 split
 ·rename_i hlt; exact hk id hlt
 ·rename_i hlt
  cases hH : s.H id with
  | none => rfl
  | some o => have := (hRH.obj id o hH).1; omega
theorem zjn {f : FuncId} {ds : List D} {H : HM} {nx : Nat} {r : D} (hr : pureD r = true)
  (h : AC P f ds H nx fun r' H' _ => r' = r /\ ∀ id, id < nx -> H' id = H id) : RC P f ds H nx r := by
 have h1 := zoc h (fun r' H' nx' ⟨hr', hk⟩ => by
  subst hr'
  exact ⟨zay _ _ hr, fun id o hid ho => .inl (by rw [<- hk id hid]; exact ho)⟩)
 refine ⟨h1.1, fun s w vs e1 e2 e3 e4 => (h1.2 s w vs e1 e2 e3 e4).mono fun e w' ⟨v, r1, s1, he, ⟨hnx, H', nx', ⟨hr', hk⟩, hcut⟩, hstep, hRH, hrel⟩ => ⟨v, r1, s1, he, ⟨hr', ?_, hnx⟩, hstep, hRH, hrel⟩⟩
 subst e1; subst e2
 rw [hcut]; exact zjm e3 hk
theorem z3m {α : Type} {i j : Nat} {a b : α} (h : ¬ i = j) : (bif i == j then a else b) = b := by
 rw [show (i == j) = false from by simpa using h]; rfl
theorem z0b : (∀ (p : Prop) [Decidable p], (decide p = true) = p) /\ (∀ (p : Prop) [Decidable p], (decide p = false) = ¬p) /\ (∀ p : Prop, (¬¬p) ↔ p) /\ (∀ (α : Type) [BEq α] [LawfulBEq α] (a b : α), (a == b) = true ↔ a = b) /\ (∀ (α : Type) [BEq α] [LawfulBEq α] (a b : α), (a == b) = false ↔ a ≠ b) /\ (∀ (α : Type) [BEq α] [LawfulBEq α] (a b : α), (a != b) = true ↔ a ≠ b) /\ (∀ (α : Type) (a b : α), (a ≠ b) = ¬(a = b)) /\ (∀ b : Bool, ((!b) = true) = (b = false)) /\ (∀ b : Bool, ((!b) = false) = (b = true)) /\ (∀ a b : Bool, ((a && b) = true) = (a = true /\ b = true)) /\ (∀ a b : Bool, ((a || b) = true) = (a = true \/ b = true)) /\ (∀ a b : Bool, ((a && b) = false) = (a = true -> b = false)) /\ (∀ a b : Bool, ((a || b) = false) = (a = false /\ b = false)) /\ (∀ b : Bool, (¬(b = true)) = (b = false)) /\ (∀ b : Bool, (¬(b = false)) = (b = true)) :=
 ⟨fun p _ => decide_eq_true_eq, fun p _ => by simp, fun p => Classical.not_not, fun α _ _ a b => beq_iff_eq, fun α _ _ a b => beq_eq_false_iff_ne, fun α _ _ a b => bne_iff_ne, fun α a b => rfl, fun b => by cases b <;> simp, fun b => by cases b <;> simp, fun a b => by cases a <;> cases b <;> simp, fun a b => by cases a <;> cases b <;> simp, fun a b => by cases a <;> cases b <;> simp, fun a b => by cases a <;> cases b <;> simp, fun b => by cases b <;> simp, fun b => by cases b <;> simp⟩
end Go.Proofs.YtmnabhhdiinfaaaGreatDoor.Abs
namespace Go.Proofs.YtmnabhhdiinfaaaGreatDoor.Abs
open Go.RowKit Go.ChangeShapes

def elD (ag : Bool) (p : List D) : D := if ag = true then .agg p else (p[0]?).getD .any
def elV (ag : Bool) (p : List Value) : Value := if ag = true then .agg p.toArray else (p[0]?).getD undef
def zju (T : TypeId -> List D -> Prop) : List Field -> List D -> Prop
 | [], ds => ds = []
 | f :: fs, ds => ∃ d1 d2, ds = d1 ++ d2 /\ T f.type d1 /\ zju T fs d2
def z4z (P : Program) : Nat -> TypeId -> List D -> Prop
 | 0, _, _ => False
 | n + 1, t, ds => match P.underlying t with
  | some .bool => ∃ b, ds = [.bool b]
  | some (.int k) => ∃ i, ds = [.int k i] /\ (Lit.int k i).wf = true
  | some .string => ∃ s : ByteArray, ds = [.str s] /\ s.size <= maxLen
  | some (.slice e) => ∃ parts : List (List D), parts.length <= maxLen /\ (∀ p ∈ parts, z4z P n e p) /\ ds = [.rsl false (z09 P e) (parts.map (elD (z0g P e)))]
  | some (.struct fs) => zju (z4z P n) fs.toList ds
  | _ => False
def zm7 (P : Program) (n : Nat) : List Field -> Nat -> Bool
 | [], off => off == n
 | f :: fs, off => f.offset == off && zm7 P n fs (off + P.cellsOf f.type)
def zga (P : Program) (S : List TypeId) : Bool :=
 S.all fun t => match P.underlying t with
  | some .bool | some (.int _) | some .string => true
  | some (.slice e) => S.any fun u => u == e
  | some (.struct fs) => zm7 P (P.cellsOf t) fs.toList 0 && fs.toList.all fun f => S.any fun u => u == f.type
  | _ => false

section
variable {H : Type} {enc : TypeId × Value -> H} {P : Program} {W : World} {base : Nat} {spare : Nat -> Bool} {held : Bool}
theorem zx3 {S : List TypeId} {e : TypeId} (h : (S.any fun u => u == e) = true) : e ∈ S := by
 obtain ⟨x, hx, he⟩ := List.any_eq_true.1 h
 rw [<- beq_iff_eq.1 he]; exact hx
theorem z6v {d : D} {v : Value} (h : rel (z83 W) d v) (h1 : v.oneCell' = true) : relAll (z83 W) [d] [v] /\ z6i [v] :=
 ⟨z0w h z15, fun u hu => by simp at hu; subst hu; exact h1⟩
theorem zig {S : List TypeId} (hS : zga P S = true) : ∀ (n : Nat) (t : TypeId) (cs : List Value) (x : DataW H × List MemPlace), t ∈ S -> DataW.trod enc P W base spare held n t cs = some x ->
  ∃ ds, relAll (z83 W) ds cs /\ z6i cs /\ z4z P n t ds /\ (z0g P t = false -> ∃ c d, cs = [c] /\ ds = [d]) := by
 intro n
 induction n with
 | zero => intro t cs x _ h; simp [DataW.trod] at h
 | succ n ih =>
  intro t cs x ht h
  have hc := List.all_eq_true.1 hS t ht
  cases hu : P.underlying t with
  | none => rw [hu] at hc; cases hc
  | some td =>
   rw [hu] at hc
   cases td <;> first | (cases hc; done) | skip
   case bool =>
    obtain ⟨b, rfl, _⟩ := DataW.trod_bool hu h
    obtain ⟨h1, h2⟩ := z6v (W := W) (d := .bool b) (v := .bool b) (by simp [rel]) rfl
    exact ⟨_, h1, h2, by simp only [z4z, hu]; exact ⟨b, rfl⟩, fun _ => ⟨_, _, rfl, rfl⟩⟩
   case int k =>
    obtain ⟨i, rfl, _, hw⟩ := DataW.trod_int hu h
    obtain ⟨h1, h2⟩ := z6v (W := W) (d := .int k i) (v := .int k i) (by simp [rel]) rfl
    exact ⟨_, h1, h2, by simp only [z4z, hu]; exact ⟨i, rfl, hw⟩, fun _ => ⟨_, _, rfl, rfl⟩⟩
   case string =>
    obtain ⟨s, rfl, _, hw⟩ := DataW.trod_string hu h
    obtain ⟨h1, h2⟩ := z6v (W := W) (d := .str s) (v := .string s) (by simp [rel]) rfl
    exact ⟨_, h1, h2, by simp only [z4z, hu]; exact ⟨s, rfl, hw⟩, fun _ => ⟨_, _, rfl, rfl⟩⟩
   case slice e =>
    have he := zx3 hc
    rcases DataW.trod_slice hu h with ⟨rfl, _⟩ | ⟨a, len, cap, elems, rest, m, hm, rfl, _, _, hl, hcm, hlen, hel, _⟩
    ·obtain ⟨h1, h2⟩ := z6v (W := W) (d := .rsl false (z09 P e) []) (v := .slice none 0 0) (by simp only [rel]; exact .inl ⟨trivial, trivial, trivial⟩) rfl
     exact ⟨_, h1, h2, by simp only [z4z, hu]; exact ⟨[], by simp, by simp, rfl⟩, fun _ => ⟨_, _, rfl, rfl⟩⟩
    ·cases hm
     have each : ∀ i : _root_.Fin len, ∃ p : List Value × List D, W.cells? base (a.add (i * P.cellsOf e)) (P.cellsOf e) = some p.1 /\ relAll (z83 W) p.2 p.1 /\ z6i p.1 /\ z4z P n e p.2 /\ (z0g P e = false -> ∃ c d, p.1 = [c] /\ p.2 = [d]) := by
      intro i
      have hi := hel i i.2
      rw [List.getElem?_eq_getElem (by omega), Option.bind_eq_some_iff] at hi
      obtain ⟨cs', h1, h2⟩ := hi
      obtain ⟨ds, k1, k2, k3, k4⟩ := ih e cs' _ he h2
      exact ⟨(cs', ds), h1, k1, k2, k3, k4⟩
     obtain ⟨f, hf⟩ := Classical.axiomOfChoice each
     have hag : ∀ i, rel (z83 W) (elD (z0g P e) (f i).2) (elV (z0g P e) (f i).1) /\ (elV (z0g P e) (f i).1).cells.toList = (f i).1 := by
      intro i
      obtain ⟨h1, h2, h3, h4, h5⟩ := hf i
      cases hag : z0g P e with
      | true =>
       simp only [elD, elV, if_true, Value.cells]
       exact ⟨by simp only [rel]; exact ⟨_, rfl, h2, h3⟩, trivial⟩
      | false =>
       obtain ⟨c, d, hc1, hd1⟩ := h5 hag
       rw [hc1, hd1] at h2
       rw [hc1] at h3
       simp only [elD, elV, hc1, hd1, Bool.false_eq_true, if_false, List.getElem?_cons_zero, Option.getD_some]
       simp only [relAll] at h2
       obtain ⟨v, r, hv, hrel, hr⟩ := h2
       simp only [List.cons.injEq] at hv
       obtain ⟨rfl, rfl⟩ := hv
       refine ⟨hrel, ?_⟩
       rw [z2k (h3 c (by simp))]
     have hsz : z09 P e = P.cellsOf e := rfl
     obtain ⟨h1, h2⟩ := z6v (W := W) (d := .rsl false (z09 P e) ((List.ofFn fun i => (f i).2).map (elD (z0g P e)))) (v := .slice (some a) len cap) (by
      simp only [rel]
      refine .inr ⟨a, cap, List.ofFn fun i => elV (z0g P e) (f i).1, by simp, by simpa using hl, hcm, z5h (by simp) (fun i d v hd hv => ?_), fun i v hv => ?_⟩
      ·simp only [List.getElem?_map, List.getElem?_ofFn] at hd hv
       split at hv
       ·rename_i hi
        rw [dif_pos hi] at hd
        simp only [Option.map_some, Option.some.injEq] at hd hv
        subst hd; subst hv
        exact (hag ⟨i, hi⟩).1
       ·cases hv
      ·simp only [List.getElem?_ofFn] at hv
       split at hv
       ·rename_i hi
        simp only [Option.some.injEq] at hv
        subst hv
        obtain ⟨g1, _⟩ := hf ⟨i, hi⟩
        obtain ⟨_, g2, g3⟩ := World.cells?_some g1
        have g4 := (hag ⟨i, hi⟩).2
        refine ⟨by rw [<- Array.length_toList, g4, g2, hsz], fun j c hj => ?_⟩
        rw [g4] at hj
        have hjl : j < P.cellsOf e := by rw [<- g2]; exact (List.getElem?_eq_some_iff.1 hj).1
        have := g3 j hjl
        rw [hj] at this
        exact this
       ·cases hv) rfl
     refine ⟨_, h1, h2, ?_, fun _ => ⟨_, _, rfl, rfl⟩⟩
     simp only [z4z, hu]
     refine ⟨List.ofFn fun i => (f i).2, by simp; omega, fun p hp => ?_, rfl⟩
     obtain ⟨i, rfl⟩ := List.mem_ofFn.1 hp
     exact (hf i).2.2.2.1
   case struct fs =>
    obtain ⟨xs, m, hm, _, hcl, hxl, hxf⟩ := DataW.trod_struct hu h
    cases hm
    simp only [Bool.and_eq_true] at hc
    obtain ⟨htile, hfs⟩ := hc
    have key : ∀ (l : List Field) (off k : Nat), (∀ i, l[i]? = fs[k + i]?) -> zm7 P (P.cellsOf t) l off = true -> ∃ ds, relAll (z83 W) ds (cs.drop off) /\ z6i (cs.drop off) /\ zju (z4z P n) l ds := by
     intro l
     induction l with
     | nil =>
      intro off k _ ht'
      simp only [zm7, beq_iff_eq] at ht'
      subst ht'
      rw [<- hcl, List.drop_length]
      exact ⟨[], z15, fun v hv => by simp at hv, rfl⟩
     | cons g l ihl =>
      intro off k hl ht'
      simp only [zm7, Bool.and_eq_true, beq_iff_eq] at ht'
      obtain ⟨rfl, ht'⟩ := ht'
      have hg : fs[k]? = some g := by have := hl 0; simpa using this.symm
      have hlt : k < fs.size := (Array.getElem?_eq_some_iff.1 hg).1
      have hx := hxf k g hg
      rw [List.getElem?_eq_getElem (by omega)] at hx
      have hmem : g ∈ fs.toList := by
       obtain ⟨h1, h2⟩ := Array.getElem?_eq_some_iff.1 hg
       rw [<- h2]; exact Array.mem_toList_iff.2 (Array.getElem_mem h1)
      obtain ⟨d1, r1, r2, r3, _⟩ := ih g.type _ _ (zx3 (List.all_eq_true.1 hfs g hmem)) hx
      obtain ⟨d2, q1, q2, q3⟩ := ihl (g.offset + P.cellsOf g.type) (k + 1) (fun i => by have := hl (i + 1); simpa [Nat.add_assoc, Nat.add_comm 1 i] using this) ht'
      have hsp : cs.drop g.offset = (cs.drop g.offset).take (P.cellsOf g.type) ++ cs.drop (g.offset + P.cellsOf g.type) := by
       rw [<- List.drop_drop, List.take_append_drop]
      rw [hsp]
      exact ⟨d1 ++ d2, z1a r1 q1, fun v hv => by
       rcases List.mem_append.1 hv with hv | hv
       ·exact r2 v hv
       ·exact q2 v hv, d1, d2, rfl, r3, q3⟩
    obtain ⟨ds, h1, h2, h3⟩ := key fs.toList 0 0 (fun i => by simp) htile
    rw [List.drop_zero] at h1 h2
    refine ⟨ds, h1, h2, by simp only [z4z, hu]; exact h3, fun hag => ?_⟩
    simp only [z0g, hu] at hag
    cases hag
theorem one_arg {S : List TypeId} (hS : zga P S = true) {t : TypeId} {v : Value} {d : DataW H} {p : List MemPlace} (ht : t ∈ S) (hag : z0g P t = false) (hv : v.oneCell' = true) (h : DataW.Trod enc P W base spare held t v d p) :
  ∃ n d', z4z P n t [d'] /\ rel (z83 W) d' v := by
 obtain ⟨n, h⟩ := h
 obtain ⟨ds, h1, _, h3, h4⟩ := zig hS n t _ _ ht h
 obtain ⟨c, d', hc, rfl⟩ := h4 hag
 rw [z2k hv] at h1
 simp only [relAll] at h1
 obtain ⟨v', r, hvr, hrel, _⟩ := h1
 simp only [List.cons.injEq] at hvr
 obtain ⟨rfl, _⟩ := hvr
 exact ⟨n, d', h3, hrel⟩
theorem agg_arg {S : List TypeId} (hS : zga P S = true) {t : TypeId} {cs : Array Value} {d : DataW H} {p : List MemPlace} (ht : t ∈ S) (h : DataW.Trod enc P W base spare held t (.agg cs) d p) :
  ∃ n ds, z4z P n t ds /\ rel (z83 W) (.agg ds) (.agg cs) := by
 obtain ⟨n, h⟩ := h
 obtain ⟨ds, h1, h2, h3, _⟩ := zig hS n t _ _ ht h
 refine ⟨n, ds, h3, ?_⟩
 simp only [rel]
 exact ⟨cs.toList, by simp, by simpa [Value.cells] using h1, by simpa [Value.cells] using h2⟩
end
section
variable {P : Program} {n : Nat} {t e : TypeId} {d : D} {ds : List D}
theorem wf_i64 {i : Int} (h : (Lit.int .i64 i).wf = true) : -9223372036854775808 <= i /\ i <= 9223372036854775807 := by
 simp only [Lit.wf, Bool.and_eq_true, decide_eq_true_eq] at h
 exact h
theorem z44 (hu : P.underlying t = some (.int .i64)) (h : z4z P n t ds) : ∃ i : Int, ds = [.int .i64 i] /\ -9223372036854775808 <= i /\ i <= 9223372036854775807 := by
 cases n with
 | zero => exact h.elim
 | succ n =>
  simp only [z4z, hu] at h
  obtain ⟨i, h1, h2⟩ := h
  exact ⟨i, h1, wf_i64 h2⟩
theorem zcn (hu : P.underlying t = some .string) (h : z4z P n t ds) : ∃ s : ByteArray, ds = [.str s] /\ s.size <= maxLen := by
 cases n with
 | zero => exact h.elim
 | succ n => simpa only [z4z, hu] using h
theorem z97 (hu : P.underlying t = some (.slice e)) (h : z4z P n t ds) : ∃ (m : Nat) (parts : List (List D)), n = m + 1 /\ parts.length <= maxLen /\ (∀ p ∈ parts, z4z P m e p) /\ ds = [.rsl false (z09 P e) (parts.map (elD (z0g P e)))] := by
 cases n with
 | zero => exact h.elim
 | succ n =>
  simp only [z4z, hu] at h
  obtain ⟨parts, h1, h2, h3⟩ := h
  exact ⟨n, parts, rfl, h1, h2, h3⟩
theorem z45 {fs : Array Field} (hu : P.underlying t = some (.struct fs)) (h : z4z P n t ds) : ∃ m, n = m + 1 /\ zju (z4z P m) fs.toList ds := by
 cases n with
 | zero => exact h.elim
 | succ n => exact ⟨n, rfl, by simpa only [z4z, hu] using h⟩
theorem z5e {α : Type} {good : List D -> Prop} {f : α -> List D} {q : α -> Prop} (h : ∀ p, good p -> ∃ x, p = f x /\ q x) : ∀ (parts : List (List D)), (∀ p ∈ parts, good p) -> ∃ l : List α, parts = l.map f /\ (∀ x ∈ l, q x)
 | [], _ => ⟨[], rfl, by simp⟩
 | p :: parts, hp => by
  obtain ⟨x, hx, hq⟩ := h p (hp p (by simp))
  obtain ⟨l, hl, hq'⟩ := z5e h parts (fun p' hp' => hp p' (by simp [hp']))
  exact ⟨x :: l, by simp [hx, hl], by simp; exact ⟨hq, hq'⟩⟩
end
end Go.Proofs.YtmnabhhdiinfaaaGreatDoor.Abs
namespace Go.Proofs.YtmnabhhdiinfaaaGreatDoor.Facts
open Go.Proofs.YtmnabhhdiinfaaaGreatDoor.Abs
@[go_sem] theorem ty1 : z0g Tryz.prog 1 = false /\ z18 Tryz.prog 1 = true /\ z1c Tryz.prog 1 = none /\ z5y Tryz.prog 1 = none /\ z6f Tryz.prog 1 = none /\ z5n Tryz.prog 1 = false /\ z2q Tryz.prog 1 = false /\ z5m Tryz.prog 1 = none /\ z09 Tryz.prog 1 = 1 /\ z0u Tryz.prog 1 = 8 /\ z1u Tryz.prog 1 = some [D.nfun] /\ z0v Tryz.prog 1 = true := by refine ⟨?_, ?_, ?_, ?_, ?_, ?_, ?_, ?_, ?_, ?_, ?_, ?_⟩ <;> kernel_rfl
@[go_sem] theorem ty2 : z0g Tryz.prog 2 = false /\ z18 Tryz.prog 2 = true /\ z1c Tryz.prog 2 = none /\ z5y Tryz.prog 2 = none /\ z6f Tryz.prog 2 = some .i64 /\ z5n Tryz.prog 2 = false /\ z2q Tryz.prog 2 = false /\ z5m Tryz.prog 2 = none /\ z09 Tryz.prog 2 = 1 /\ z0u Tryz.prog 2 = 8 /\ z1u Tryz.prog 2 = some [D.int .i64 0] /\ z0v Tryz.prog 2 = true := by refine ⟨?_, ?_, ?_, ?_, ?_, ?_, ?_, ?_, ?_, ?_, ?_, ?_⟩ <;> kernel_rfl
@[go_sem] theorem ty3 : z0g Tryz.prog 3 = false /\ z18 Tryz.prog 3 = true /\ z1c Tryz.prog 3 = none /\ z5y Tryz.prog 3 = none /\ z6f Tryz.prog 3 = some .i64 /\ z5n Tryz.prog 3 = false /\ z2q Tryz.prog 3 = false /\ z5m Tryz.prog 3 = none /\ z09 Tryz.prog 3 = 1 /\ z0u Tryz.prog 3 = 8 /\ z1u Tryz.prog 3 = some [D.int .i64 0] /\ z0v Tryz.prog 3 = true := by refine ⟨?_, ?_, ?_, ?_, ?_, ?_, ?_, ?_, ?_, ?_, ?_, ?_⟩ <;> kernel_rfl
theorem z5u : z0g Tryz.prog 3 = false := ty3.1
theorem za5 : z18 Tryz.prog 3 = true := ty3.2.1
theorem zeh : z09 Tryz.prog 3 = 1 := ty3.2.2.2.2.2.2.2.2.1
@[go_sem] theorem ty4 : z0g Tryz.prog 4 = false /\ z18 Tryz.prog 4 = true /\ z1c Tryz.prog 4 = none /\ z5y Tryz.prog 4 = none /\ z6f Tryz.prog 4 = none /\ z5n Tryz.prog 4 = false /\ z2q Tryz.prog 4 = true /\ z5m Tryz.prog 4 = none /\ z09 Tryz.prog 4 = 1 /\ z0u Tryz.prog 4 = 1 /\ z1u Tryz.prog 4 = some [D.bool false] /\ z0v Tryz.prog 4 = true := by refine ⟨?_, ?_, ?_, ?_, ?_, ?_, ?_, ?_, ?_, ?_, ?_, ?_⟩ <;> kernel_rfl
theorem zgf : z0g Tryz.prog 4 = false := ty4.1
@[go_sem] theorem ty5 : z0g Tryz.prog 5 = false /\ z18 Tryz.prog 5 = true /\ z1c Tryz.prog 5 = none /\ z5y Tryz.prog 5 = none /\ z6f Tryz.prog 5 = some .u8 /\ z5n Tryz.prog 5 = false /\ z2q Tryz.prog 5 = false /\ z5m Tryz.prog 5 = none /\ z09 Tryz.prog 5 = 1 /\ z0u Tryz.prog 5 = 1 /\ z1u Tryz.prog 5 = some [D.int .u8 0] /\ z0v Tryz.prog 5 = true := by refine ⟨?_, ?_, ?_, ?_, ?_, ?_, ?_, ?_, ?_, ?_, ?_, ?_⟩ <;> kernel_rfl
@[go_sem] theorem ty9 : z0g Tryz.prog 9 = false /\ z18 Tryz.prog 9 = true /\ z1c Tryz.prog 9 = none /\ z5y Tryz.prog 9 = none /\ z6f Tryz.prog 9 = none /\ z5n Tryz.prog 9 = true /\ z2q Tryz.prog 9 = false /\ z5m Tryz.prog 9 = none /\ z09 Tryz.prog 9 = 1 /\ z0u Tryz.prog 9 = 16 /\ z1u Tryz.prog 9 = some [D.str ByteArray.empty] /\ z0v Tryz.prog 9 = true := by refine ⟨?_, ?_, ?_, ?_, ?_, ?_, ?_, ?_, ?_, ?_, ?_, ?_⟩ <;> kernel_rfl
theorem z98 : z0g Tryz.prog 9 = false := ty9.1
theorem zjz : z18 Tryz.prog 9 = true := ty9.2.1
theorem zik : z09 Tryz.prog 9 = 1 := ty9.2.2.2.2.2.2.2.2.1
@[go_sem] theorem ty21 : z0g Tryz.prog 21 = false /\ z18 Tryz.prog 21 = true /\ z1c Tryz.prog 21 = none /\ z5y Tryz.prog 21 = none /\ z6f Tryz.prog 21 = some .i32 /\ z5n Tryz.prog 21 = false /\ z2q Tryz.prog 21 = false /\ z5m Tryz.prog 21 = none /\ z09 Tryz.prog 21 = 1 /\ z0u Tryz.prog 21 = 4 /\ z1u Tryz.prog 21 = some [D.int .i32 0] /\ z0v Tryz.prog 21 = true := by refine ⟨?_, ?_, ?_, ?_, ?_, ?_, ?_, ?_, ?_, ?_, ?_, ?_⟩ <;> kernel_rfl
@[go_sem] theorem ty23 : z0g Tryz.prog 23 = true /\ z18 Tryz.prog 23 = false /\ z1c Tryz.prog 23 = none /\ z5y Tryz.prog 23 = none /\ z6f Tryz.prog 23 = none /\ z5n Tryz.prog 23 = false /\ z2q Tryz.prog 23 = false /\ z5m Tryz.prog 23 = none /\ z09 Tryz.prog 23 = 3 /\ z0u Tryz.prog 23 = 24 /\ z1u Tryz.prog 23 = some [D.int .i64 0, D.int .i64 0, D.int .i64 0] /\ z0v Tryz.prog 23 = true := by refine ⟨?_, ?_, ?_, ?_, ?_, ?_, ?_, ?_, ?_, ?_, ?_, ?_⟩ <;> kernel_rfl
theorem z1i : z0g Tryz.prog 23 = true := ty23.1
theorem zr0 : z18 Tryz.prog 23 = false := ty23.2.1
theorem z99 : z09 Tryz.prog 23 = 3 := ty23.2.2.2.2.2.2.2.2.1
@[go_sem] theorem fieldsOK23 : z3o Tryz.prog 23 = true := by kernel_rfl
@[go_sem] theorem fieldT23_0 : z1x Tryz.prog 23 0 = some (0, 3) := by kernel_rfl
@[go_sem] theorem fieldT23_1 : z1x Tryz.prog 23 1 = some (1, 3) := by kernel_rfl
@[go_sem] theorem fieldT23_2 : z1x Tryz.prog 23 2 = some (2, 3) := by kernel_rfl
@[go_sem] theorem ty24 : z0g Tryz.prog 24 = false /\ z18 Tryz.prog 24 = true /\ z1c Tryz.prog 24 = some 72 /\ z5y Tryz.prog 24 = none /\ z6f Tryz.prog 24 = none /\ z5n Tryz.prog 24 = false /\ z2q Tryz.prog 24 = false /\ z5m Tryz.prog 24 = none /\ z09 Tryz.prog 24 = 1 /\ z0u Tryz.prog 24 = 24 /\ z1u Tryz.prog 24 = some [D.nil] /\ z0v Tryz.prog 24 = true := by refine ⟨?_, ?_, ?_, ?_, ?_, ?_, ?_, ?_, ?_, ?_, ?_, ?_⟩ <;> kernel_rfl
theorem zfb : z0g Tryz.prog 24 = false := ty24.1
@[go_sem] theorem ty25 : z0g Tryz.prog 25 = false /\ z18 Tryz.prog 25 = true /\ z1c Tryz.prog 25 = some 27 /\ z5y Tryz.prog 25 = none /\ z6f Tryz.prog 25 = none /\ z5n Tryz.prog 25 = false /\ z2q Tryz.prog 25 = false /\ z5m Tryz.prog 25 = none /\ z09 Tryz.prog 25 = 1 /\ z0u Tryz.prog 25 = 24 /\ z1u Tryz.prog 25 = some [D.nil] /\ z0v Tryz.prog 25 = true := by refine ⟨?_, ?_, ?_, ?_, ?_, ?_, ?_, ?_, ?_, ?_, ?_, ?_⟩ <;> kernel_rfl
@[go_sem] theorem ty27 : z0g Tryz.prog 27 = true /\ z18 Tryz.prog 27 = false /\ z1c Tryz.prog 27 = none /\ z5y Tryz.prog 27 = none /\ z6f Tryz.prog 27 = none /\ z5n Tryz.prog 27 = false /\ z2q Tryz.prog 27 = false /\ z5m Tryz.prog 27 = none /\ z09 Tryz.prog 27 = 8 /\ z0u Tryz.prog 27 = 120 /\ z1u Tryz.prog 27 = some [D.int .i64 0, D.int .i64 0, D.int .i64 0, D.int .i64 0, D.str ByteArray.empty, D.nil, D.nil, D.nil] /\ z0v Tryz.prog 27 = true := by refine ⟨?_, ?_, ?_, ?_, ?_, ?_, ?_, ?_, ?_, ?_, ?_, ?_⟩ <;> kernel_rfl
theorem z0l : z0g Tryz.prog 27 = true := ty27.1
theorem z30 : z09 Tryz.prog 27 = 8 := ty27.2.2.2.2.2.2.2.2.1
@[go_sem] theorem fieldsOK27 : z3o Tryz.prog 27 = true := by kernel_rfl
@[go_sem] theorem fieldT27_0 : z1x Tryz.prog 27 0 = some (0, 23) := by kernel_rfl
@[go_sem] theorem fieldT27_1 : z1x Tryz.prog 27 1 = some (3, 3) := by kernel_rfl
@[go_sem] theorem fieldT27_2 : z1x Tryz.prog 27 2 = some (4, 9) := by kernel_rfl
@[go_sem] theorem fieldT27_3 : z1x Tryz.prog 27 3 = some (5, 24) := by kernel_rfl
@[go_sem] theorem fieldT27_4 : z1x Tryz.prog 27 4 = some (6, 24) := by kernel_rfl
@[go_sem] theorem fieldT27_5 : z1x Tryz.prog 27 5 = some (7, 25) := by kernel_rfl
@[go_sem] theorem ty28 : z0g Tryz.prog 28 = false /\ z18 Tryz.prog 28 = true /\ z1c Tryz.prog 28 = none /\ z5y Tryz.prog 28 = none /\ z6f Tryz.prog 28 = none /\ z5n Tryz.prog 28 = false /\ z2q Tryz.prog 28 = false /\ z5m Tryz.prog 28 = none /\ z09 Tryz.prog 28 = 1 /\ z0u Tryz.prog 28 = 8 /\ z1u Tryz.prog 28 = some [D.nfun] /\ z0v Tryz.prog 28 = true := by refine ⟨?_, ?_, ?_, ?_, ?_, ?_, ?_, ?_, ?_, ?_, ?_, ?_⟩ <;> kernel_rfl
@[go_sem] theorem ty30 : z0g Tryz.prog 30 = false /\ z18 Tryz.prog 30 = true /\ z1c Tryz.prog 30 = none /\ z5y Tryz.prog 30 = none /\ z6f Tryz.prog 30 = none /\ z5n Tryz.prog 30 = false /\ z2q Tryz.prog 30 = false /\ z5m Tryz.prog 30 = none /\ z09 Tryz.prog 30 = 1 /\ z0u Tryz.prog 30 = 8 /\ z1u Tryz.prog 30 = some [D.nptr] /\ z0v Tryz.prog 30 = true := by refine ⟨?_, ?_, ?_, ?_, ?_, ?_, ?_, ?_, ?_, ?_, ?_, ?_⟩ <;> kernel_rfl
@[go_sem] theorem ptrT30 : ptrT Tryz.prog 30 = true := by kernel_rfl
@[go_sem] theorem ty32 : z0g Tryz.prog 32 = false /\ z18 Tryz.prog 32 = true /\ z1c Tryz.prog 32 = none /\ z5y Tryz.prog 32 = none /\ z6f Tryz.prog 32 = none /\ z5n Tryz.prog 32 = false /\ z2q Tryz.prog 32 = false /\ z5m Tryz.prog 32 = none /\ z09 Tryz.prog 32 = 1 /\ z0u Tryz.prog 32 = 8 /\ z1u Tryz.prog 32 = some [D.nfun] /\ z0v Tryz.prog 32 = true := by refine ⟨?_, ?_, ?_, ?_, ?_, ?_, ?_, ?_, ?_, ?_, ?_, ?_⟩ <;> kernel_rfl
@[go_sem] theorem ty41 : z0g Tryz.prog 41 = false /\ z18 Tryz.prog 41 = true /\ z1c Tryz.prog 41 = some 53 /\ z5y Tryz.prog 41 = none /\ z6f Tryz.prog 41 = none /\ z5n Tryz.prog 41 = false /\ z2q Tryz.prog 41 = false /\ z5m Tryz.prog 41 = none /\ z09 Tryz.prog 41 = 1 /\ z0u Tryz.prog 41 = 24 /\ z1u Tryz.prog 41 = some [D.nil] /\ z0v Tryz.prog 41 = true := by refine ⟨?_, ?_, ?_, ?_, ?_, ?_, ?_, ?_, ?_, ?_, ?_, ?_⟩ <;> kernel_rfl
theorem isAggT41 : z0g Tryz.prog 41 = false := ty41.1
@[go_sem] theorem ty43 : z0g Tryz.prog 43 = false /\ z18 Tryz.prog 43 = true /\ z1c Tryz.prog 43 = some 30 /\ z5y Tryz.prog 43 = none /\ z6f Tryz.prog 43 = none /\ z5n Tryz.prog 43 = false /\ z2q Tryz.prog 43 = false /\ z5m Tryz.prog 43 = none /\ z09 Tryz.prog 43 = 1 /\ z0u Tryz.prog 43 = 24 /\ z1u Tryz.prog 43 = some [D.nil] /\ z0v Tryz.prog 43 = true := by refine ⟨?_, ?_, ?_, ?_, ?_, ?_, ?_, ?_, ?_, ?_, ?_, ?_⟩ <;> kernel_rfl
@[go_sem] theorem ty44 : z0g Tryz.prog 44 = false /\ z18 Tryz.prog 44 = true /\ z1c Tryz.prog 44 = some 49 /\ z5y Tryz.prog 44 = none /\ z6f Tryz.prog 44 = none /\ z5n Tryz.prog 44 = false /\ z2q Tryz.prog 44 = false /\ z5m Tryz.prog 44 = none /\ z09 Tryz.prog 44 = 1 /\ z0u Tryz.prog 44 = 24 /\ z1u Tryz.prog 44 = some [D.nil] /\ z0v Tryz.prog 44 = true := by refine ⟨?_, ?_, ?_, ?_, ?_, ?_, ?_, ?_, ?_, ?_, ?_, ?_⟩ <;> kernel_rfl
@[go_sem] theorem ty47 : z0g Tryz.prog 47 = false /\ z18 Tryz.prog 47 = true /\ z1c Tryz.prog 47 = some 86 /\ z5y Tryz.prog 47 = none /\ z6f Tryz.prog 47 = none /\ z5n Tryz.prog 47 = false /\ z2q Tryz.prog 47 = false /\ z5m Tryz.prog 47 = none /\ z09 Tryz.prog 47 = 1 /\ z0u Tryz.prog 47 = 24 /\ z1u Tryz.prog 47 = some [D.nil] /\ z0v Tryz.prog 47 = true := by refine ⟨?_, ?_, ?_, ?_, ?_, ?_, ?_, ?_, ?_, ?_, ?_, ?_⟩ <;> kernel_rfl
@[go_sem] theorem ty49 : z0g Tryz.prog 49 = true /\ z18 Tryz.prog 49 = false /\ z1c Tryz.prog 49 = none /\ z5y Tryz.prog 49 = none /\ z6f Tryz.prog 49 = none /\ z5n Tryz.prog 49 = false /\ z2q Tryz.prog 49 = false /\ z5m Tryz.prog 49 = none /\ z09 Tryz.prog 49 = 9 /\ z0u Tryz.prog 49 = 144 /\ z1u Tryz.prog 49 = some [D.int .i64 0, D.int .i64 0, D.int .i64 0, D.int .i64 0, D.str ByteArray.empty, D.nil, D.nil, D.nil, D.nil] /\ z0v Tryz.prog 49 = true := by refine ⟨?_, ?_, ?_, ?_, ?_, ?_, ?_, ?_, ?_, ?_, ?_, ?_⟩ <;> kernel_rfl
@[go_sem] theorem fieldsOK49 : z3o Tryz.prog 49 = true := by kernel_rfl
@[go_sem] theorem fieldT49_0 : z1x Tryz.prog 49 0 = some (0, 27) := by kernel_rfl
@[go_sem] theorem fieldT49_1 : z1x Tryz.prog 49 1 = some (8, 47) := by kernel_rfl
@[go_sem] theorem ty53 : z0g Tryz.prog 53 = true /\ z18 Tryz.prog 53 = false /\ z1c Tryz.prog 53 = none /\ z5y Tryz.prog 53 = none /\ z6f Tryz.prog 53 = none /\ z5n Tryz.prog 53 = false /\ z2q Tryz.prog 53 = false /\ z5m Tryz.prog 53 = none /\ z09 Tryz.prog 53 = 18 /\ z0u Tryz.prog 53 = 224 /\ z0v Tryz.prog 53 = true := by refine ⟨?_, ?_, ?_, ?_, ?_, ?_, ?_, ?_, ?_, ?_, ?_⟩ <;> kernel_rfl
theorem isAggT53 : z0g Tryz.prog 53 = true := ty53.1
theorem sizeT53 : z09 Tryz.prog 53 = 18 := ty53.2.2.2.2.2.2.2.2.1
@[go_sem] theorem fieldsOK53 : z3o Tryz.prog 53 = true := by kernel_rfl
@[go_sem] theorem fieldT53_0 : z1x Tryz.prog 53 0 = some (0, 5) := by kernel_rfl
@[go_sem] theorem fieldT53_1 : z1x Tryz.prog 53 1 = some (1, 23) := by kernel_rfl
@[go_sem] theorem fieldT53_2 : z1x Tryz.prog 53 2 = some (4, 23) := by kernel_rfl
@[go_sem] theorem fieldT53_3 : z1x Tryz.prog 53 3 = some (7, 3) := by kernel_rfl
@[go_sem] theorem fieldT53_4 : z1x Tryz.prog 53 4 = some (8, 27) := by kernel_rfl
@[go_sem] theorem fieldT53_5 : z1x Tryz.prog 53 5 = some (16, 9) := by kernel_rfl
@[go_sem] theorem fieldT53_6 : z1x Tryz.prog 53 6 = some (17, 24) := by kernel_rfl
@[go_sem] theorem ty54 : z0g Tryz.prog 54 = false /\ z18 Tryz.prog 54 = true /\ z1c Tryz.prog 54 = none /\ z5y Tryz.prog 54 = none /\ z6f Tryz.prog 54 = some .i64 /\ z5n Tryz.prog 54 = false /\ z2q Tryz.prog 54 = false /\ z5m Tryz.prog 54 = none /\ z09 Tryz.prog 54 = 1 /\ z0u Tryz.prog 54 = 8 /\ z1u Tryz.prog 54 = some [D.int .i64 0] /\ z0v Tryz.prog 54 = true := by refine ⟨?_, ?_, ?_, ?_, ?_, ?_, ?_, ?_, ?_, ?_, ?_, ?_⟩ <;> kernel_rfl
@[go_sem] theorem ty70 : z0g Tryz.prog 70 = true /\ z18 Tryz.prog 70 = false /\ z1c Tryz.prog 70 = none /\ z5y Tryz.prog 70 = none /\ z6f Tryz.prog 70 = none /\ z5n Tryz.prog 70 = false /\ z2q Tryz.prog 70 = false /\ z5m Tryz.prog 70 = none /\ z09 Tryz.prog 70 = 3 /\ z0u Tryz.prog 70 = 24 /\ z1u Tryz.prog 70 = some [D.int .i64 0, D.int .i64 0, D.int .i64 0] /\ z0v Tryz.prog 70 = true := by refine ⟨?_, ?_, ?_, ?_, ?_, ?_, ?_, ?_, ?_, ?_, ?_, ?_⟩ <;> kernel_rfl
theorem zr1 : z0g Tryz.prog 70 = true := ty70.1
theorem zr2 : z18 Tryz.prog 70 = false := ty70.2.1
theorem zxh : z09 Tryz.prog 70 = 3 := ty70.2.2.2.2.2.2.2.2.1
@[go_sem] theorem fieldsOK70 : z3o Tryz.prog 70 = true := by kernel_rfl
@[go_sem] theorem fieldT70_0 : z1x Tryz.prog 70 0 = some (0, 3) := by kernel_rfl
@[go_sem] theorem fieldT70_1 : z1x Tryz.prog 70 1 = some (1, 3) := by kernel_rfl
@[go_sem] theorem fieldT70_2 : z1x Tryz.prog 70 2 = some (2, 3) := by kernel_rfl
@[go_sem] theorem ty72 : z0g Tryz.prog 72 = true /\ z18 Tryz.prog 72 = false /\ z1c Tryz.prog 72 = none /\ z5y Tryz.prog 72 = none /\ z6f Tryz.prog 72 = none /\ z5n Tryz.prog 72 = false /\ z2q Tryz.prog 72 = false /\ z5m Tryz.prog 72 = none /\ z09 Tryz.prog 72 = 4 /\ z0u Tryz.prog 72 = 40 /\ z1u Tryz.prog 72 = some [D.str ByteArray.empty, D.int .i64 0, D.int .i64 0, D.int .i64 0] /\ z0v Tryz.prog 72 = true := by refine ⟨?_, ?_, ?_, ?_, ?_, ?_, ?_, ?_, ?_, ?_, ?_, ?_⟩ <;> kernel_rfl
theorem zaz : z0g Tryz.prog 72 = true := ty72.1
theorem zdw : z09 Tryz.prog 72 = 4 := ty72.2.2.2.2.2.2.2.2.1
@[go_sem] theorem fieldsOK72 : z3o Tryz.prog 72 = true := by kernel_rfl
@[go_sem] theorem fieldT72_0 : z1x Tryz.prog 72 0 = some (0, 9) := by kernel_rfl
@[go_sem] theorem fieldT72_1 : z1x Tryz.prog 72 1 = some (1, 70) := by kernel_rfl
@[go_sem] theorem ty75 : z0g Tryz.prog 75 = false /\ z18 Tryz.prog 75 = true /\ z1c Tryz.prog 75 = none /\ z5y Tryz.prog 75 = none /\ z6f Tryz.prog 75 = none /\ z5n Tryz.prog 75 = false /\ z2q Tryz.prog 75 = false /\ z5m Tryz.prog 75 = none /\ z09 Tryz.prog 75 = 1 /\ z0u Tryz.prog 75 = 8 /\ z1u Tryz.prog 75 = some [D.nptr] /\ z0v Tryz.prog 75 = true := by refine ⟨?_, ?_, ?_, ?_, ?_, ?_, ?_, ?_, ?_, ?_, ?_, ?_⟩ <;> kernel_rfl
theorem z7h : z09 Tryz.prog 75 = 1 := ty75.2.2.2.2.2.2.2.2.1
@[go_sem] theorem ptrT75 : ptrT Tryz.prog 75 = true := by kernel_rfl
@[go_sem] theorem ty78 : z0g Tryz.prog 78 = true /\ z18 Tryz.prog 78 = false /\ z1c Tryz.prog 78 = none /\ z5y Tryz.prog 78 = none /\ z6f Tryz.prog 78 = none /\ z5n Tryz.prog 78 = false /\ z2q Tryz.prog 78 = false /\ z5m Tryz.prog 78 = none /\ z09 Tryz.prog 78 = 1 /\ z0u Tryz.prog 78 = 8 /\ z1u Tryz.prog 78 = some [D.nptr] /\ z0v Tryz.prog 78 = true := by refine ⟨?_, ?_, ?_, ?_, ?_, ?_, ?_, ?_, ?_, ?_, ?_, ?_⟩ <;> kernel_rfl
@[go_sem] theorem fieldsOK78 : z3o Tryz.prog 78 = true := by kernel_rfl
@[go_sem] theorem fieldT78_0 : z1x Tryz.prog 78 0 = some (0, 75) := by kernel_rfl
@[go_sem] theorem ty81 : z0g Tryz.prog 81 = false /\ z18 Tryz.prog 81 = true /\ z1c Tryz.prog 81 = none /\ z5y Tryz.prog 81 = none /\ z6f Tryz.prog 81 = none /\ z5n Tryz.prog 81 = false /\ z2q Tryz.prog 81 = false /\ z5m Tryz.prog 81 = none /\ z09 Tryz.prog 81 = 1 /\ z0u Tryz.prog 81 = 8 /\ z1u Tryz.prog 81 = some [D.nfun] /\ z0v Tryz.prog 81 = true := by refine ⟨?_, ?_, ?_, ?_, ?_, ?_, ?_, ?_, ?_, ?_, ?_, ?_⟩ <;> kernel_rfl
@[go_sem] theorem ty83 : z0g Tryz.prog 83 = false /\ z18 Tryz.prog 83 = true /\ z1c Tryz.prog 83 = none /\ z5y Tryz.prog 83 = none /\ z6f Tryz.prog 83 = none /\ z5n Tryz.prog 83 = false /\ z2q Tryz.prog 83 = false /\ z5m Tryz.prog 83 = some (75, 4) /\ z09 Tryz.prog 83 = 1 /\ z0u Tryz.prog 83 = 8 /\ z1u Tryz.prog 83 = some [D.nmp] /\ z0v Tryz.prog 83 = true := by refine ⟨?_, ?_, ?_, ?_, ?_, ?_, ?_, ?_, ?_, ?_, ?_, ?_⟩ <;> kernel_rfl
@[go_sem] theorem ty86 : z0g Tryz.prog 86 = true /\ z18 Tryz.prog 86 = false /\ z1c Tryz.prog 86 = none /\ z5y Tryz.prog 86 = none /\ z6f Tryz.prog 86 = none /\ z5n Tryz.prog 86 = false /\ z2q Tryz.prog 86 = false /\ z5m Tryz.prog 86 = none /\ z09 Tryz.prog 86 = 4 /\ z0u Tryz.prog 86 = 32 /\ z1u Tryz.prog 86 = some [D.int .i64 0, D.int .i64 0, D.int .i64 0, D.int .i64 0] /\ z0v Tryz.prog 86 = true := by refine ⟨?_, ?_, ?_, ?_, ?_, ?_, ?_, ?_, ?_, ?_, ?_, ?_⟩ <;> kernel_rfl
theorem zr3 : z0g Tryz.prog 86 = true := ty86.1
theorem zxi : z09 Tryz.prog 86 = 4 := ty86.2.2.2.2.2.2.2.2.1
@[go_sem] theorem fieldsOK86 : z3o Tryz.prog 86 = true := by kernel_rfl
@[go_sem] theorem fieldT86_0 : z1x Tryz.prog 86 0 = some (0, 23) := by kernel_rfl
@[go_sem] theorem fieldT86_1 : z1x Tryz.prog 86 1 = some (3, 3) := by kernel_rfl
@[go_sem] theorem ty91 : z0g Tryz.prog 91 = false /\ z18 Tryz.prog 91 = true /\ z1c Tryz.prog 91 = some 23 /\ z5y Tryz.prog 91 = none /\ z6f Tryz.prog 91 = none /\ z5n Tryz.prog 91 = false /\ z2q Tryz.prog 91 = false /\ z5m Tryz.prog 91 = none /\ z09 Tryz.prog 91 = 1 /\ z0u Tryz.prog 91 = 24 /\ z1u Tryz.prog 91 = some [D.nil] /\ z0v Tryz.prog 91 = true := by refine ⟨?_, ?_, ?_, ?_, ?_, ?_, ?_, ?_, ?_, ?_, ?_, ?_⟩ <;> kernel_rfl
@[go_sem] theorem ty100 : z0g Tryz.prog 100 = false /\ z18 Tryz.prog 100 = true /\ z1c Tryz.prog 100 = none /\ z5y Tryz.prog 100 = none /\ z6f Tryz.prog 100 = none /\ z5n Tryz.prog 100 = false /\ z2q Tryz.prog 100 = false /\ z5m Tryz.prog 100 = none /\ z09 Tryz.prog 100 = 1 /\ z0u Tryz.prog 100 = 8 /\ z1u Tryz.prog 100 = some [D.nfun] /\ z0v Tryz.prog 100 = true := by refine ⟨?_, ?_, ?_, ?_, ?_, ?_, ?_, ?_, ?_, ?_, ?_, ?_⟩ <;> kernel_rfl
@[go_sem] theorem ty104 : z0g Tryz.prog 104 = true /\ z18 Tryz.prog 104 = false /\ z1c Tryz.prog 104 = none /\ z5y Tryz.prog 104 = none /\ z6f Tryz.prog 104 = none /\ z5n Tryz.prog 104 = false /\ z2q Tryz.prog 104 = false /\ z5m Tryz.prog 104 = none /\ z09 Tryz.prog 104 = 2 /\ z0u Tryz.prog 104 = 16 /\ z1u Tryz.prog 104 = some [D.nfun, D.int .i64 0] /\ z0v Tryz.prog 104 = true := by refine ⟨?_, ?_, ?_, ?_, ?_, ?_, ?_, ?_, ?_, ?_, ?_, ?_⟩ <;> kernel_rfl
@[go_sem] theorem fieldsOK104 : z3o Tryz.prog 104 = true := by kernel_rfl
@[go_sem] theorem fieldT104_0 : z1x Tryz.prog 104 0 = some (0, 28) := by kernel_rfl
@[go_sem] theorem fieldT104_1 : z1x Tryz.prog 104 1 = some (1, 54) := by kernel_rfl
@[go_sem] theorem ty109 : z0g Tryz.prog 109 = false /\ z18 Tryz.prog 109 = true /\ z1c Tryz.prog 109 = none /\ z5y Tryz.prog 109 = none /\ z6f Tryz.prog 109 = none /\ z5n Tryz.prog 109 = false /\ z2q Tryz.prog 109 = false /\ z5m Tryz.prog 109 = none /\ z09 Tryz.prog 109 = 1 /\ z0u Tryz.prog 109 = 8 /\ z1u Tryz.prog 109 = some [D.nfun] /\ z0v Tryz.prog 109 = true := by refine ⟨?_, ?_, ?_, ?_, ?_, ?_, ?_, ?_, ?_, ?_, ?_, ?_⟩ <;> kernel_rfl
@[go_sem] theorem ty115 : z0g Tryz.prog 115 = false /\ z18 Tryz.prog 115 = true /\ z1c Tryz.prog 115 = some 75 /\ z5y Tryz.prog 115 = none /\ z6f Tryz.prog 115 = none /\ z5n Tryz.prog 115 = false /\ z2q Tryz.prog 115 = false /\ z5m Tryz.prog 115 = none /\ z09 Tryz.prog 115 = 1 /\ z0u Tryz.prog 115 = 24 /\ z1u Tryz.prog 115 = some [D.nil] /\ z0v Tryz.prog 115 = true := by refine ⟨?_, ?_, ?_, ?_, ?_, ?_, ?_, ?_, ?_, ?_, ?_, ?_⟩ <;> kernel_rfl
theorem zk0 : z1c Tryz.prog 115 = some 75 := ty115.2.2.1
@[go_sem] theorem ty117 : z0g Tryz.prog 117 = true /\ z18 Tryz.prog 117 = false /\ z1c Tryz.prog 117 = none /\ z5y Tryz.prog 117 = none /\ z6f Tryz.prog 117 = none /\ z5n Tryz.prog 117 = false /\ z2q Tryz.prog 117 = false /\ z5m Tryz.prog 117 = none /\ z09 Tryz.prog 117 = 9 /\ z0u Tryz.prog 117 = 144 /\ z1u Tryz.prog 117 = some [D.int .i64 0, D.int .i64 0, D.int .i64 0, D.int .i64 0, D.str ByteArray.empty, D.nil, D.nil, D.nil, D.nil] /\ z0v Tryz.prog 117 = true := by refine ⟨?_, ?_, ?_, ?_, ?_, ?_, ?_, ?_, ?_, ?_, ?_, ?_⟩ <;> kernel_rfl
@[go_sem] theorem fieldsOK117 : z3o Tryz.prog 117 = true := by kernel_rfl
@[go_sem] theorem fieldT117_0 : z1x Tryz.prog 117 0 = some (0, 27) := by kernel_rfl
@[go_sem] theorem fieldT117_1 : z1x Tryz.prog 117 1 = some (8, 115) := by kernel_rfl
@[go_sem] theorem ty131 : z0g Tryz.prog 131 = false /\ z18 Tryz.prog 131 = true /\ z1c Tryz.prog 131 = none /\ z5y Tryz.prog 131 = none /\ z6f Tryz.prog 131 = none /\ z5n Tryz.prog 131 = false /\ z2q Tryz.prog 131 = false /\ z5m Tryz.prog 131 = none /\ z09 Tryz.prog 131 = 1 /\ z0u Tryz.prog 131 = 8 /\ z1u Tryz.prog 131 = some [D.nfun] /\ z0v Tryz.prog 131 = true := by refine ⟨?_, ?_, ?_, ?_, ?_, ?_, ?_, ?_, ?_, ?_, ?_, ?_⟩ <;> kernel_rfl
@[go_sem] theorem ty135 : z0g Tryz.prog 135 = false /\ z18 Tryz.prog 135 = true /\ z1c Tryz.prog 135 = some 104 /\ z5y Tryz.prog 135 = none /\ z6f Tryz.prog 135 = none /\ z5n Tryz.prog 135 = false /\ z2q Tryz.prog 135 = false /\ z5m Tryz.prog 135 = none /\ z09 Tryz.prog 135 = 1 /\ z0u Tryz.prog 135 = 24 /\ z1u Tryz.prog 135 = some [D.nil] /\ z0v Tryz.prog 135 = true := by refine ⟨?_, ?_, ?_, ?_, ?_, ?_, ?_, ?_, ?_, ?_, ?_, ?_⟩ <;> kernel_rfl
@[go_sem] theorem ty139 : z0g Tryz.prog 139 = false /\ z18 Tryz.prog 139 = true /\ z1c Tryz.prog 139 = some 3 /\ z5y Tryz.prog 139 = none /\ z6f Tryz.prog 139 = none /\ z5n Tryz.prog 139 = false /\ z2q Tryz.prog 139 = false /\ z5m Tryz.prog 139 = none /\ z09 Tryz.prog 139 = 1 /\ z0u Tryz.prog 139 = 24 /\ z1u Tryz.prog 139 = some [D.nil] /\ z0v Tryz.prog 139 = true := by refine ⟨?_, ?_, ?_, ?_, ?_, ?_, ?_, ?_, ?_, ?_, ?_, ?_⟩ <;> kernel_rfl
@[go_sem] theorem ty140 : z0g Tryz.prog 140 = true /\ z18 Tryz.prog 140 = false /\ z1c Tryz.prog 140 = none /\ z5y Tryz.prog 140 = some (8, 139) /\ z6f Tryz.prog 140 = none /\ z5n Tryz.prog 140 = false /\ z2q Tryz.prog 140 = false /\ z5m Tryz.prog 140 = none /\ z09 Tryz.prog 140 = 8 /\ z0u Tryz.prog 140 = 192 /\ z1u Tryz.prog 140 = some [D.nil, D.nil, D.nil, D.nil, D.nil, D.nil, D.nil, D.nil] /\ z0v Tryz.prog 140 = true := by refine ⟨?_, ?_, ?_, ?_, ?_, ?_, ?_, ?_, ?_, ?_, ?_, ?_⟩ <;> kernel_rfl
@[go_sem] theorem under140 : Tryz.prog.underlying 140 = some (.array 8 139) := by kernel_rfl
@[go_sem] theorem ty144 : z0g Tryz.prog 144 = false /\ z18 Tryz.prog 144 = true /\ z1c Tryz.prog 144 = none /\ z5y Tryz.prog 144 = none /\ z6f Tryz.prog 144 = none /\ z5n Tryz.prog 144 = false /\ z2q Tryz.prog 144 = false /\ z5m Tryz.prog 144 = none /\ z09 Tryz.prog 144 = 1 /\ z0u Tryz.prog 144 = 8 /\ z1u Tryz.prog 144 = some [D.nfun] /\ z0v Tryz.prog 144 = true := by refine ⟨?_, ?_, ?_, ?_, ?_, ?_, ?_, ?_, ?_, ?_, ?_, ?_⟩ <;> kernel_rfl
@[go_sem] theorem ty148 : z0g Tryz.prog 148 = false /\ z18 Tryz.prog 148 = true /\ z1c Tryz.prog 148 = none /\ z5y Tryz.prog 148 = none /\ z6f Tryz.prog 148 = none /\ z5n Tryz.prog 148 = false /\ z2q Tryz.prog 148 = false /\ z5m Tryz.prog 148 = none /\ z09 Tryz.prog 148 = 1 /\ z0u Tryz.prog 148 = 8 /\ z1u Tryz.prog 148 = some [D.nfun] /\ z0v Tryz.prog 148 = true := by refine ⟨?_, ?_, ?_, ?_, ?_, ?_, ?_, ?_, ?_, ?_, ?_, ?_⟩ <;> kernel_rfl
theorem zmd : z0g Tryz.prog 148 = false := ty148.1
@[go_sem] theorem ty154 : z0g Tryz.prog 154 = false /\ z18 Tryz.prog 154 = true /\ z1c Tryz.prog 154 = none /\ z5y Tryz.prog 154 = none /\ z6f Tryz.prog 154 = none /\ z5n Tryz.prog 154 = false /\ z2q Tryz.prog 154 = false /\ z5m Tryz.prog 154 = none /\ z09 Tryz.prog 154 = 1 /\ z0u Tryz.prog 154 = 8 /\ z1u Tryz.prog 154 = some [D.nfun] /\ z0v Tryz.prog 154 = true := by refine ⟨?_, ?_, ?_, ?_, ?_, ?_, ?_, ?_, ?_, ?_, ?_, ?_⟩ <;> kernel_rfl
@[go_sem] theorem ty166 : z0g Tryz.prog 166 = false /\ z18 Tryz.prog 166 = true /\ z1c Tryz.prog 166 = some 9 /\ z5y Tryz.prog 166 = none /\ z6f Tryz.prog 166 = none /\ z5n Tryz.prog 166 = false /\ z2q Tryz.prog 166 = false /\ z5m Tryz.prog 166 = none /\ z09 Tryz.prog 166 = 1 /\ z0u Tryz.prog 166 = 24 /\ z1u Tryz.prog 166 = some [D.nil] /\ z0v Tryz.prog 166 = true := by refine ⟨?_, ?_, ?_, ?_, ?_, ?_, ?_, ?_, ?_, ?_, ?_, ?_⟩ <;> kernel_rfl
@[go_sem] theorem ty174 : z0g Tryz.prog 174 = false /\ z18 Tryz.prog 174 = true /\ z1c Tryz.prog 174 = none /\ z5y Tryz.prog 174 = none /\ z6f Tryz.prog 174 = none /\ z5n Tryz.prog 174 = false /\ z2q Tryz.prog 174 = false /\ z5m Tryz.prog 174 = some (176, 4) /\ z09 Tryz.prog 174 = 1 /\ z0u Tryz.prog 174 = 8 /\ z1u Tryz.prog 174 = some [D.nmp] /\ z0v Tryz.prog 174 = true := by refine ⟨?_, ?_, ?_, ?_, ?_, ?_, ?_, ?_, ?_, ?_, ?_, ?_⟩ <;> kernel_rfl
@[go_sem] theorem ty176 : z0g Tryz.prog 176 = true /\ z18 Tryz.prog 176 = false /\ z1c Tryz.prog 176 = none /\ z5y Tryz.prog 176 = none /\ z6f Tryz.prog 176 = none /\ z5n Tryz.prog 176 = false /\ z2q Tryz.prog 176 = false /\ z5m Tryz.prog 176 = none /\ z09 Tryz.prog 176 = 2 /\ z0u Tryz.prog 176 = 24 /\ z1u Tryz.prog 176 = some [D.int .i64 0, D.str ByteArray.empty] /\ z0v Tryz.prog 176 = true := by refine ⟨?_, ?_, ?_, ?_, ?_, ?_, ?_, ?_, ?_, ?_, ?_, ?_⟩ <;> kernel_rfl
theorem zxj : z0g Tryz.prog 176 = true := ty176.1
theorem sizeT176 : z09 Tryz.prog 176 = 2 := ty176.2.2.2.2.2.2.2.2.1
@[go_sem] theorem fieldsOK176 : z3o Tryz.prog 176 = true := by kernel_rfl
@[go_sem] theorem fieldT176_0 : z1x Tryz.prog 176 0 = some (0, 3) := by kernel_rfl
@[go_sem] theorem fieldT176_1 : z1x Tryz.prog 176 1 = some (1, 9) := by kernel_rfl
@[go_sem] theorem ty177 : z0g Tryz.prog 177 = false /\ z18 Tryz.prog 177 = true /\ z1c Tryz.prog 177 = none /\ z5y Tryz.prog 177 = none /\ z6f Tryz.prog 177 = none /\ z5n Tryz.prog 177 = false /\ z2q Tryz.prog 177 = false /\ z5m Tryz.prog 177 = some (23, 4) /\ z09 Tryz.prog 177 = 1 /\ z0u Tryz.prog 177 = 8 /\ z1u Tryz.prog 177 = some [D.nmp] /\ z0v Tryz.prog 177 = true := by refine ⟨?_, ?_, ?_, ?_, ?_, ?_, ?_, ?_, ?_, ?_, ?_, ?_⟩ <;> kernel_rfl
@[go_sem] theorem ty180 : z0g Tryz.prog 180 = false /\ z18 Tryz.prog 180 = true /\ z1c Tryz.prog 180 = none /\ z5y Tryz.prog 180 = none /\ z6f Tryz.prog 180 = none /\ z5n Tryz.prog 180 = false /\ z2q Tryz.prog 180 = false /\ z5m Tryz.prog 180 = none /\ z09 Tryz.prog 180 = 1 /\ z0u Tryz.prog 180 = 8 /\ z1u Tryz.prog 180 = some [D.nfun] /\ z0v Tryz.prog 180 = true := by refine ⟨?_, ?_, ?_, ?_, ?_, ?_, ?_, ?_, ?_, ?_, ?_, ?_⟩ <;> kernel_rfl
@[go_sem] theorem ty182 : z0g Tryz.prog 182 = false /\ z18 Tryz.prog 182 = true /\ z1c Tryz.prog 182 = some 5 /\ z5y Tryz.prog 182 = none /\ z6f Tryz.prog 182 = none /\ z5n Tryz.prog 182 = false /\ z2q Tryz.prog 182 = false /\ z5m Tryz.prog 182 = none /\ z09 Tryz.prog 182 = 1 /\ z0u Tryz.prog 182 = 24 /\ z1u Tryz.prog 182 = some [D.nil] /\ z0v Tryz.prog 182 = true := by refine ⟨?_, ?_, ?_, ?_, ?_, ?_, ?_, ?_, ?_, ?_, ?_, ?_⟩ <;> kernel_rfl
@[go_sem] theorem ty187 : z0g Tryz.prog 187 = true /\ z18 Tryz.prog 187 = false /\ z1c Tryz.prog 187 = none /\ z5y Tryz.prog 187 = some (8, 9) /\ z6f Tryz.prog 187 = none /\ z5n Tryz.prog 187 = false /\ z2q Tryz.prog 187 = false /\ z5m Tryz.prog 187 = none /\ z09 Tryz.prog 187 = 8 /\ z0u Tryz.prog 187 = 128 /\ z1u Tryz.prog 187 = some [D.str ByteArray.empty, D.str ByteArray.empty, D.str ByteArray.empty, D.str ByteArray.empty, D.str ByteArray.empty, D.str ByteArray.empty, D.str ByteArray.empty, D.str ByteArray.empty] /\ z0v Tryz.prog 187 = true := by refine ⟨?_, ?_, ?_, ?_, ?_, ?_, ?_, ?_, ?_, ?_, ?_, ?_⟩ <;> kernel_rfl
@[go_sem] theorem under187 : Tryz.prog.underlying 187 = some (.array 8 9) := by kernel_rfl
@[go_sem] theorem ptrT199 : ptrT Tryz.prog 199 = true := by kernel_rfl
@[go_sem] theorem keyT75 : zy9 Tryz.prog 75 = false := by kernel_rfl
@[go_sem] theorem ptrK75 : ptrK Tryz.prog 75 = true := by kernel_rfl
@[go_sem] theorem zeroD4 : ztm Tryz.prog 4 = some (D.bool false) := by kernel_rfl
@[go_sem] theorem keyT176 : zy9 Tryz.prog 176 = true := by kernel_rfl
@[go_sem] theorem keyT23 : zy9 Tryz.prog 23 = true := by kernel_rfl
theorem z3v {P : Program} {d : Nat} {t : TypeId} {fs : Array Field} {xs ys : List D} (hu : P.underlying t = some (.struct fs)) (hs : P.stoodInHeld t = false) : eqD P (d + 1) t (.agg xs) (.agg ys) = z2e (eqD P d) P xs ys fs.toList := by
 simp only [eqD, hu, hs, if_true]
theorem za6 {P : Program} {d : Nat} {t : TypeId} {k : IntKind} {a b : Int} (hu : P.underlying t = some (.int k)) : eqD P (d + 1) t (.int k a) (.int k b) = some (decide (a = b)) := by
 simp only [eqD, hu, if_true, Option.some.injEq]; by_cases h : a = b <;> simp [h]
theorem zk1 {P : Program} {d : Nat} {t : TypeId} {a b : ByteArray} (hu : P.underlying t = some .string) : eqD P (d + 1) t (.str a) (.str b) = some (decide (a = b)) := by
 simp only [eqD, hu]
theorem guardT22 : Tryz.prog.eqGuardType Tryz.prog.depth 22 = false := by kernel_rfl
theorem eqT22 (d : Nat) (a0 b0 : Int) (a1 b1 : Int) (a2 b2 : Int) : eqD Tryz.prog (d + 2) 22 (.agg [.int .i64 a0, .int .i64 a1, .int .i64 a2]) (.agg [.int .i64 b0, .int .i64 b1, .int .i64 b2]) = some (decide (a0 = b0) && decide (a1 = b1) && decide (a2 = b2)) := by
 rw [z3v Tryz.underlying22 (by kernel_rfl)]
 simp only [z2e, z6m, List.getElem?_cons_zero, List.getElem?_cons_succ, List.drop_succ_cons, List.drop_zero, List.take_succ_cons, List.take_zero, List.length_cons, List.length_nil, Nat.reduceAdd, Nat.reduceLeDiff, if_true, if_false, Bool.false_eq_true, ne_eq, String.reduceEq, not_false_eq_true, decide_eq_true_eq, z5u, za5, zeh, za6 Tryz.underlying3]
 (repeat' split) <;> simp_all
@[go_sem] theorem eqU22 (a0 b0 : Int) (a1 b1 : Int) (a2 b2 : Int) : eqD Tryz.prog 8 22 (.agg [.int .i64 a0, .int .i64 a1, .int .i64 a2]) (.agg [.int .i64 b0, .int .i64 b1, .int .i64 b2]) = some (decide (a0 = b0) && decide (a1 = b1) && decide (a2 = b2)) := eqT22 6 a0 b0 a1 b1 a2 b2
attribute [go_sem] guardT22
theorem guardT23 : Tryz.prog.eqGuardType Tryz.prog.depth 23 = false := by kernel_rfl
theorem eqT23 (d : Nat) (a0 b0 : Int) (a1 b1 : Int) (a2 b2 : Int) : eqD Tryz.prog (d + 2) 23 (.agg [.int .i64 a0, .int .i64 a1, .int .i64 a2]) (.agg [.int .i64 b0, .int .i64 b1, .int .i64 b2]) = some (decide (a0 = b0) && decide (a1 = b1) && decide (a2 = b2)) := by
 rw [z3v Tryz.underlying23 (by kernel_rfl)]
 simp only [z2e, z6m, List.getElem?_cons_zero, List.getElem?_cons_succ, List.drop_succ_cons, List.drop_zero, List.take_succ_cons, List.take_zero, List.length_cons, List.length_nil, Nat.reduceAdd, Nat.reduceLeDiff, if_true, if_false, Bool.false_eq_true, ne_eq, String.reduceEq, not_false_eq_true, decide_eq_true_eq, z5u, za5, zeh, za6 Tryz.underlying3]
 (repeat' split) <;> simp_all
@[go_sem] theorem eqU23 (a0 b0 : Int) (a1 b1 : Int) (a2 b2 : Int) : eqD Tryz.prog 8 23 (.agg [.int .i64 a0, .int .i64 a1, .int .i64 a2]) (.agg [.int .i64 b0, .int .i64 b1, .int .i64 b2]) = some (decide (a0 = b0) && decide (a1 = b1) && decide (a2 = b2)) := eqT23 6 a0 b0 a1 b1 a2 b2
attribute [go_sem] guardT23
theorem guardT69 : Tryz.prog.eqGuardType Tryz.prog.depth 69 = false := by kernel_rfl
theorem eqT69 (d : Nat) (a0 b0 : Int) (a1 b1 : Int) (a2 b2 : Int) : eqD Tryz.prog (d + 2) 69 (.agg [.int .i64 a0, .int .i64 a1, .int .i64 a2]) (.agg [.int .i64 b0, .int .i64 b1, .int .i64 b2]) = some (decide (a0 = b0) && decide (a1 = b1) && decide (a2 = b2)) := by
 rw [z3v Tryz.underlying69 (by kernel_rfl)]
 simp only [z2e, z6m, List.getElem?_cons_zero, List.getElem?_cons_succ, List.drop_succ_cons, List.drop_zero, List.take_succ_cons, List.take_zero, List.length_cons, List.length_nil, Nat.reduceAdd, Nat.reduceLeDiff, if_true, if_false, Bool.false_eq_true, ne_eq, String.reduceEq, not_false_eq_true, decide_eq_true_eq, z5u, za5, zeh, za6 Tryz.underlying3]
 (repeat' split) <;> simp_all
@[go_sem] theorem eqU69 (a0 b0 : Int) (a1 b1 : Int) (a2 b2 : Int) : eqD Tryz.prog 8 69 (.agg [.int .i64 a0, .int .i64 a1, .int .i64 a2]) (.agg [.int .i64 b0, .int .i64 b1, .int .i64 b2]) = some (decide (a0 = b0) && decide (a1 = b1) && decide (a2 = b2)) := eqT69 6 a0 b0 a1 b1 a2 b2
attribute [go_sem] guardT69
theorem guardT70 : Tryz.prog.eqGuardType Tryz.prog.depth 70 = false := by kernel_rfl
theorem eqT70 (d : Nat) (a0 b0 : Int) (a1 b1 : Int) (a2 b2 : Int) : eqD Tryz.prog (d + 2) 70 (.agg [.int .i64 a0, .int .i64 a1, .int .i64 a2]) (.agg [.int .i64 b0, .int .i64 b1, .int .i64 b2]) = some (decide (a0 = b0) && decide (a1 = b1) && decide (a2 = b2)) := by
 rw [z3v Tryz.underlying70 (by kernel_rfl)]
 simp only [z2e, z6m, List.getElem?_cons_zero, List.getElem?_cons_succ, List.drop_succ_cons, List.drop_zero, List.take_succ_cons, List.take_zero, List.length_cons, List.length_nil, Nat.reduceAdd, Nat.reduceLeDiff, if_true, if_false, Bool.false_eq_true, ne_eq, String.reduceEq, not_false_eq_true, decide_eq_true_eq, z5u, za5, zeh, za6 Tryz.underlying3]
 (repeat' split) <;> simp_all
@[go_sem] theorem eqU70 (a0 b0 : Int) (a1 b1 : Int) (a2 b2 : Int) : eqD Tryz.prog 8 70 (.agg [.int .i64 a0, .int .i64 a1, .int .i64 a2]) (.agg [.int .i64 b0, .int .i64 b1, .int .i64 b2]) = some (decide (a0 = b0) && decide (a1 = b1) && decide (a2 = b2)) := eqT70 6 a0 b0 a1 b1 a2 b2
attribute [go_sem] guardT70
theorem guardT71 : Tryz.prog.eqGuardType Tryz.prog.depth 71 = false := by kernel_rfl
theorem eqT71 (d : Nat) (a0 b0 : ByteArray) (a1 b1 : Int) (a2 b2 : Int) (a3 b3 : Int) : eqD Tryz.prog (d + 3) 71 (.agg [.str a0, .int .i64 a1, .int .i64 a2, .int .i64 a3]) (.agg [.str b0, .int .i64 b1, .int .i64 b2, .int .i64 b3]) = some (decide (a0 = b0) && (decide (a1 = b1) && decide (a2 = b2) && decide (a3 = b3))) := by
 rw [z3v Tryz.underlying71 (by kernel_rfl)]
 simp only [z2e, z6m, List.getElem?_cons_zero, List.getElem?_cons_succ, List.drop_succ_cons, List.drop_zero, List.take_succ_cons, List.take_zero, List.length_cons, List.length_nil, Nat.reduceAdd, Nat.reduceLeDiff, if_true, if_false, Bool.false_eq_true, ne_eq, String.reduceEq, not_false_eq_true, decide_eq_true_eq, z98, zjz, zik, zk1 Tryz.underlying9, zr1, zr2, zxh, eqT70]
 (repeat' split) <;> simp_all
@[go_sem] theorem eqU71 (a0 b0 : ByteArray) (a1 b1 : Int) (a2 b2 : Int) (a3 b3 : Int) : eqD Tryz.prog 8 71 (.agg [.str a0, .int .i64 a1, .int .i64 a2, .int .i64 a3]) (.agg [.str b0, .int .i64 b1, .int .i64 b2, .int .i64 b3]) = some (decide (a0 = b0) && (decide (a1 = b1) && decide (a2 = b2) && decide (a3 = b3))) := eqT71 5 a0 b0 a1 b1 a2 b2 a3 b3
attribute [go_sem] guardT71
theorem guardT72 : Tryz.prog.eqGuardType Tryz.prog.depth 72 = false := by kernel_rfl
theorem eqT72 (d : Nat) (a0 b0 : ByteArray) (a1 b1 : Int) (a2 b2 : Int) (a3 b3 : Int) : eqD Tryz.prog (d + 3) 72 (.agg [.str a0, .int .i64 a1, .int .i64 a2, .int .i64 a3]) (.agg [.str b0, .int .i64 b1, .int .i64 b2, .int .i64 b3]) = some (decide (a0 = b0) && (decide (a1 = b1) && decide (a2 = b2) && decide (a3 = b3))) := by
 rw [z3v Tryz.underlying72 (by kernel_rfl)]
 simp only [z2e, z6m, List.getElem?_cons_zero, List.getElem?_cons_succ, List.drop_succ_cons, List.drop_zero, List.take_succ_cons, List.take_zero, List.length_cons, List.length_nil, Nat.reduceAdd, Nat.reduceLeDiff, if_true, if_false, Bool.false_eq_true, ne_eq, String.reduceEq, not_false_eq_true, decide_eq_true_eq, z98, zjz, zik, zk1 Tryz.underlying9, zr1, zr2, zxh, eqT70]
 (repeat' split) <;> simp_all
@[go_sem] theorem eqU72 (a0 b0 : ByteArray) (a1 b1 : Int) (a2 b2 : Int) (a3 b3 : Int) : eqD Tryz.prog 8 72 (.agg [.str a0, .int .i64 a1, .int .i64 a2, .int .i64 a3]) (.agg [.str b0, .int .i64 b1, .int .i64 b2, .int .i64 b3]) = some (decide (a0 = b0) && (decide (a1 = b1) && decide (a2 = b2) && decide (a3 = b3))) := eqT72 5 a0 b0 a1 b1 a2 b2 a3 b3
attribute [go_sem] guardT72
theorem guardT85 : Tryz.prog.eqGuardType Tryz.prog.depth 85 = false := by kernel_rfl
theorem eqT85 (d : Nat) (a0 b0 : Int) (a1 b1 : Int) (a2 b2 : Int) (a3 b3 : Int) : eqD Tryz.prog (d + 3) 85 (.agg [.int .i64 a0, .int .i64 a1, .int .i64 a2, .int .i64 a3]) (.agg [.int .i64 b0, .int .i64 b1, .int .i64 b2, .int .i64 b3]) = some ((decide (a0 = b0) && decide (a1 = b1) && decide (a2 = b2)) && decide (a3 = b3)) := by
 rw [z3v Tryz.underlying85 (by kernel_rfl)]
 simp only [z2e, z6m, List.getElem?_cons_zero, List.getElem?_cons_succ, List.drop_succ_cons, List.drop_zero, List.take_succ_cons, List.take_zero, List.length_cons, List.length_nil, Nat.reduceAdd, Nat.reduceLeDiff, if_true, if_false, Bool.false_eq_true, ne_eq, String.reduceEq, not_false_eq_true, decide_eq_true_eq, z5u, za5, zeh, za6 Tryz.underlying3, z1i, zr0, z99, eqT23]
 (repeat' split) <;> simp_all
@[go_sem] theorem eqU85 (a0 b0 : Int) (a1 b1 : Int) (a2 b2 : Int) (a3 b3 : Int) : eqD Tryz.prog 8 85 (.agg [.int .i64 a0, .int .i64 a1, .int .i64 a2, .int .i64 a3]) (.agg [.int .i64 b0, .int .i64 b1, .int .i64 b2, .int .i64 b3]) = some ((decide (a0 = b0) && decide (a1 = b1) && decide (a2 = b2)) && decide (a3 = b3)) := eqT85 5 a0 b0 a1 b1 a2 b2 a3 b3
attribute [go_sem] guardT85
theorem guardT86 : Tryz.prog.eqGuardType Tryz.prog.depth 86 = false := by kernel_rfl
theorem eqT86 (d : Nat) (a0 b0 : Int) (a1 b1 : Int) (a2 b2 : Int) (a3 b3 : Int) : eqD Tryz.prog (d + 3) 86 (.agg [.int .i64 a0, .int .i64 a1, .int .i64 a2, .int .i64 a3]) (.agg [.int .i64 b0, .int .i64 b1, .int .i64 b2, .int .i64 b3]) = some ((decide (a0 = b0) && decide (a1 = b1) && decide (a2 = b2)) && decide (a3 = b3)) := by
 rw [z3v Tryz.underlying86 (by kernel_rfl)]
 simp only [z2e, z6m, List.getElem?_cons_zero, List.getElem?_cons_succ, List.drop_succ_cons, List.drop_zero, List.take_succ_cons, List.take_zero, List.length_cons, List.length_nil, Nat.reduceAdd, Nat.reduceLeDiff, if_true, if_false, Bool.false_eq_true, ne_eq, String.reduceEq, not_false_eq_true, decide_eq_true_eq, z5u, za5, zeh, za6 Tryz.underlying3, z1i, zr0, z99, eqT23]
 (repeat' split) <;> simp_all
@[go_sem] theorem eqU86 (a0 b0 : Int) (a1 b1 : Int) (a2 b2 : Int) (a3 b3 : Int) : eqD Tryz.prog 8 86 (.agg [.int .i64 a0, .int .i64 a1, .int .i64 a2, .int .i64 a3]) (.agg [.int .i64 b0, .int .i64 b1, .int .i64 b2, .int .i64 b3]) = some ((decide (a0 = b0) && decide (a1 = b1) && decide (a2 = b2)) && decide (a3 = b3)) := eqT86 5 a0 b0 a1 b1 a2 b2 a3 b3
attribute [go_sem] guardT86
theorem zxk : Tryz.prog.eqGuardType Tryz.prog.depth 175 = false := by kernel_rfl
theorem eqT175 (d : Nat) (a0 b0 : Int) (a1 b1 : ByteArray) : eqD Tryz.prog (d + 2) 175 (.agg [.int .i64 a0, .str a1]) (.agg [.int .i64 b0, .str b1]) = some (decide (a0 = b0) && decide (a1 = b1)) := by
 rw [z3v Tryz.underlying175 (by kernel_rfl)]
 simp only [z2e, z6m, List.getElem?_cons_zero, List.getElem?_cons_succ, List.drop_succ_cons, List.drop_zero, List.take_succ_cons, List.take_zero, List.length_cons, List.length_nil, Nat.reduceAdd, Nat.reduceLeDiff, if_true, if_false, Bool.false_eq_true, ne_eq, String.reduceEq, not_false_eq_true, decide_eq_true_eq, z5u, za5, zeh, za6 Tryz.underlying3, z98, zjz, zik, zk1 Tryz.underlying9]
 (repeat' split) <;> simp_all
@[go_sem] theorem eqU175 (a0 b0 : Int) (a1 b1 : ByteArray) : eqD Tryz.prog 8 175 (.agg [.int .i64 a0, .str a1]) (.agg [.int .i64 b0, .str b1]) = some (decide (a0 = b0) && decide (a1 = b1)) := eqT175 6 a0 b0 a1 b1
attribute [go_sem] zxk
theorem zxl : Tryz.prog.eqGuardType Tryz.prog.depth 176 = false := by kernel_rfl
theorem eqT176 (d : Nat) (a0 b0 : Int) (a1 b1 : ByteArray) : eqD Tryz.prog (d + 2) 176 (.agg [.int .i64 a0, .str a1]) (.agg [.int .i64 b0, .str b1]) = some (decide (a0 = b0) && decide (a1 = b1)) := by
 rw [z3v Tryz.underlying176 (by kernel_rfl)]
 simp only [z2e, z6m, List.getElem?_cons_zero, List.getElem?_cons_succ, List.drop_succ_cons, List.drop_zero, List.take_succ_cons, List.take_zero, List.length_cons, List.length_nil, Nat.reduceAdd, Nat.reduceLeDiff, if_true, if_false, Bool.false_eq_true, ne_eq, String.reduceEq, not_false_eq_true, decide_eq_true_eq, z5u, za5, zeh, za6 Tryz.underlying3, z98, zjz, zik, zk1 Tryz.underlying9]
 (repeat' split) <;> simp_all
@[go_sem] theorem eqU176 (a0 b0 : Int) (a1 b1 : ByteArray) : eqD Tryz.prog 8 176 (.agg [.int .i64 a0, .str a1]) (.agg [.int .i64 b0, .str b1]) = some (decide (a0 = b0) && decide (a1 = b1)) := eqT176 6 a0 b0 a1 b1
attribute [go_sem] zxl
theorem z8j : Tryz.prog.follows .mixedOrders = true := by kernel_rfl

/-- A contract out of a walk, its decisions in one. -/
theorem z14 (own : List Nat) {f : FuncId} {fn : Func} {c : Code} (hf : Tryz.prog.funcs[f]? = some fn) (hb : fn.body = some c) (hh : (fn.name == "runtime.NumGoroutine") = false /\ z8f fn.ntmps c = true)
    {ds : List D} {H : HM} {nx : Nat} {K : D -> HM -> Nat -> Prop} (hds : Nat.ble ds.length fn.ntmps = true) (h : awp Tryz.prog own c (retQ Tryz.prog fn.results.toList K) (st0 ds H nx)) : AC Tryz.prog f ds H nx K :=
  zqze own hf hb hh.1 z8j hh.2 (Nat.le_of_ble_eq_true hds) h
end Go.Proofs.YtmnabhhdiinfaaaGreatDoor.Facts
namespace Go.Proofs.YtmnabhhdiinfaaaGreatDoor.Abs
open Go.RowKit Go.ChangeShapes Facts
def zru (P : Program) : Nat -> TypeId -> DataW Unit -> Option (List D)
 | 0, _, _ => none
 | n + 1, t, d => match P.underlying t, d with
  | some .string, .lit (.string l) => some [.str ⟨l.toArray⟩]
  | some (.int k), .lit (.int _ i) => some [.int k i]
  | some (.slice _), .nil => some [.nil]
  | some (.slice e), .slice ds _ => (ds.mapM (zru P n e)).map fun parts => [.rsl true (z09 P e) (parts.map (elD (z0g P e)))]
  | some (.array m e), .agg ds => if P.cellsOf t = m * P.cellsOf e then (ds.mapM (zru P n e)).map List.flatten else none
  | _, _ => none
section
variable {P : Program} {W : World} {base : Nat} {spare : Nat -> Bool} {held : Bool}
theorem zrv : ∀ (n : Nat) (m : Nat) (t : TypeId) (cs : List Value) (d : DataW Unit) (p : List MemPlace) (ds : List D), DataW.trod (fun _ => ()) P W base spare held m t cs = some (d, p) -> zru P n t d = some ds ->
  relAll (z83 W) ds cs /\ z6i cs /\ (z0g P t = false -> ∃ c d', cs = [c] /\ ds = [d']) := by
 intro n
 induction n with
 | zero => intro m t cs d p ds _ h; simp [zru] at h
 | succ n ih =>
  intro m t cs d p ds ht h
  unfold zru at h
  split at h
  ·rename_i l hu
   simp only [Option.some.injEq] at h
   subst h
   obtain ⟨s, rfl, hx, _⟩ := DataW.trod_string hu ht
   simp only [Prod.mk.injEq, DataW.lit.injEq, Lit.string.injEq] at hx
   obtain ⟨rfl, _⟩ := hx
   obtain ⟨h1, h2⟩ := z6v (W := W) (d := .str ⟨s.data.toList.toArray⟩) (v := .string s) (by simp only [rel]) rfl
   exact ⟨h1, h2, fun _ => ⟨_, _, rfl, rfl⟩⟩
  ·rename_i k k' i hu
   simp only [Option.some.injEq] at h
   subst h
   obtain ⟨i', rfl, hx, _⟩ := DataW.trod_int hu ht
   simp only [Prod.mk.injEq, DataW.lit.injEq, Lit.int.injEq] at hx
   obtain ⟨⟨_, rfl⟩, _⟩ := hx
   obtain ⟨h1, h2⟩ := z6v (W := W) (d := .int k i) (v := .int k i) (by simp [rel]) rfl
   exact ⟨h1, h2, fun _ => ⟨_, _, rfl, rfl⟩⟩
  ·rename_i e hu
   simp only [Option.some.injEq] at h
   subst h
   rcases DataW.trod_slice hu ht with ⟨rfl, _⟩ | ⟨_, _, _, _, _, _, _, _, hx, _⟩
   ·obtain ⟨h1, h2⟩ := z6v (W := W) (d := .nil) (v := .slice none 0 0) (by simp [rel]) rfl
    exact ⟨h1, h2, fun _ => ⟨_, _, rfl, rfl⟩⟩
   ·simp at hx
  ·rename_i e dl sp hu
   rcases DataW.trod_slice hu ht with ⟨_, hx⟩ | ⟨a, len, cap, elems, rest, m, hm, rfl, hx, _, hl, hcm, hlen, hel, _⟩
   ·simp at hx
   simp only [Prod.mk.injEq, DataW.slice.injEq] at hx
   obtain ⟨⟨rfl, _⟩, _⟩ := hx
   simp only [Option.map_eq_some_iff] at h
   obtain ⟨parts, hparts, rfl⟩ := h
   have hpl : parts.length = len := by
    have := mapM_some_length hparts
    simpa [hlen] using this
   have each : ∀ i : _root_.Fin len, ∃ p : List Value × List D, parts[i.1]? = some p.2 /\ W.cells? base (a.add (i * P.cellsOf e)) (P.cellsOf e) = some p.1 /\ relAll (z83 W) p.2 p.1 /\ z6i p.1 /\ (z0g P e = false -> ∃ c d, p.1 = [c] /\ p.2 = [d]) := by
    intro i
    have hi := hel i i.2
    rw [List.getElem?_eq_getElem (by omega), Option.bind_eq_some_iff] at hi
    obtain ⟨cs', h1, h2⟩ := hi
    have hg := mapM_some_get hparts i.1 (elems[i.1]'(by omega)).1 (by rw [List.getElem?_map, List.getElem?_eq_getElem (by omega)]; rfl)
    rw [List.getElem?_eq_getElem (by omega)] at hg
    obtain ⟨k1, k2, k4⟩ := ih _ e cs' _ _ _ h2 hg
    exact ⟨(cs', parts[i.1]'(by omega)), List.getElem?_eq_getElem (by omega), h1, k1, k2, k4⟩
   obtain ⟨f, hf⟩ := Classical.axiomOfChoice each
   have hag : ∀ i, rel (z83 W) (elD (z0g P e) (f i).2) (elV (z0g P e) (f i).1) /\ (elV (z0g P e) (f i).1).cells.toList = (f i).1 := by
    intro i
    obtain ⟨_, h1, h2, h3, h5⟩ := hf i
    cases hag : z0g P e with
    | true =>
     simp only [elD, elV, if_true, Value.cells]
     exact ⟨by simp only [rel]; exact ⟨_, rfl, h2, h3⟩, trivial⟩
    | false =>
     obtain ⟨c, d, hc1, hd1⟩ := h5 hag
     rw [hc1, hd1] at h2
     rw [hc1] at h3
     simp only [elD, elV, hc1, hd1, Bool.false_eq_true, if_false, List.getElem?_cons_zero, Option.getD_some]
     simp only [relAll] at h2
     obtain ⟨v, r, hv, hrel, hr⟩ := h2
     simp only [List.cons.injEq] at hv
     obtain ⟨rfl, rfl⟩ := hv
     refine ⟨hrel, ?_⟩
     rw [z2k (h3 c (by simp))]
   have hsz : z09 P e = P.cellsOf e := rfl
   obtain ⟨h1, h2⟩ := z6v (W := W) (d := .rsl true (z09 P e) (parts.map (elD (z0g P e)))) (v := .slice (some a) len cap) (by
    simp only [rel]
    refine .inr ⟨a, cap, List.ofFn fun i => elV (z0g P e) (f i).1, by simp [hpl], by simpa [hpl] using hl, hcm, z5h (by simp [hpl]) (fun i d v hd hv => ?_), fun i v hv => ?_⟩
    ·simp only [List.getElem?_map, List.getElem?_ofFn] at hd hv
     split at hv
     ·rename_i hi
      rw [(hf ⟨i, hi⟩).1] at hd
      simp only [Option.map_some, Option.some.injEq] at hd hv
      subst hd; subst hv
      exact (hag ⟨i, hi⟩).1
     ·cases hv
    ·simp only [List.getElem?_ofFn] at hv
     split at hv
     ·rename_i hi
      simp only [Option.some.injEq] at hv
      subst hv
      obtain ⟨_, g1, _⟩ := hf ⟨i, hi⟩
      obtain ⟨_, g2, g3⟩ := World.cells?_some g1
      have g4 := (hag ⟨i, hi⟩).2
      refine ⟨by rw [<- Array.length_toList, g4, g2, hsz], fun j c hj => ?_⟩
      rw [g4] at hj
      have hjl : j < P.cellsOf e := by rw [<- g2]; exact (List.getElem?_eq_some_iff.1 hj).1
      have := g3 j hjl
      rw [hj] at this
      exact this
     ·cases hv) rfl
   exact ⟨h1, h2, fun _ => ⟨_, _, rfl, rfl⟩⟩
  ·rename_i m' e dl hu
   split at h
   ·rename_i hc
    obtain ⟨xs, m1, hm, hx, hcl, hxl, hxe⟩ := DataW.trod_array hu ht
    simp only [Prod.mk.injEq, DataW.agg.injEq] at hx
    obtain ⟨rfl, _⟩ := hx
    simp only [Option.map_eq_some_iff] at h
    obtain ⟨parts, hparts, rfl⟩ := h
    have hpl : parts.length = m' := by
     have := mapM_some_length hparts
     simpa [hxl] using this
    have key : ∀ k, k <= m' -> relAll (z83 W) (parts.take k).flatten (cs.take (k * P.cellsOf e)) /\ z6i (cs.take (k * P.cellsOf e)) := by
     intro k
     induction k with
     | zero => intro _; simp only [List.take_zero, List.flatten_nil, Nat.zero_mul]; exact ⟨z15, zk9⟩
     | succ k ihk =>
      intro hk
      obtain ⟨q1, q2⟩ := ihk (by omega)
      have hi := hxe k (by omega)
      rw [List.getElem?_eq_getElem (by omega)] at hi
      have hg := mapM_some_get hparts k (xs[k]'(by omega)).1 (by rw [List.getElem?_map, List.getElem?_eq_getElem (by omega)]; rfl)
      rw [List.getElem?_eq_getElem (by omega)] at hg
      obtain ⟨k1, k2, _⟩ := ih _ e _ _ _ _ hi hg
      rw [List.take_succ_eq_append_getElem (by omega), List.flatten_append, Nat.add_mul, Nat.one_mul, List.take_add]
      simp only [List.flatten_cons, List.flatten_nil, List.append_nil]
      exact ⟨z1a q1 k1, z32 q2 k2⟩
    obtain ⟨q1, q2⟩ := key m' (Nat.le_refl _)
    rw [List.take_of_length_le (by omega), List.take_of_length_le (by omega)] at q1
    rw [List.take_of_length_le (by omega)] at q2
    refine ⟨q1, q2, fun hag => ?_⟩
    simp only [z0g, hu] at hag
    cases hag
   ·cases h
  ·cases h
theorem zkz {g : Nat} {nm : String} {t : TypeId} {cs : Array Value} {fuel : Nat} {d : DataW Unit} {p : List MemPlace} {ds : List D} (hg : P.globalNamed nm = some g) (hv : W.var? P nm = some cs)
  (hd : DataW.trod (fun _ => ()) P W 0 (fun _ => true) false fuel t cs.toList = some (d, p)) (hr : zru P 4 t d = some ds) : rel (z83 W) (.rptr (.agg ds)) (.pointer (some ⟨g, 0, none⟩)) := by
 obtain ⟨h1, h2, _⟩ := zrv 4 fuel t cs.toList d p ds hd hr
 simp only [rel]
 refine ⟨_, .agg cs, rfl, ⟨cs.toList, by simp, h1, h2⟩, fun j c hj => ?_⟩
 have := World.var?_cell hg hv j
 rw [z19, Nat.zero_add]
 show W.cell? _ = _
 rw [this]
 simpa [Value.cells] using hj
end
end Go.Proofs.YtmnabhhdiinfaaaGreatDoor.Abs
namespace Go.Proofs.YtmnabhhdiinfaaaGreatDoor
open Abs Facts Go.RowKit Go.ChangeShapes Go.WideShapes Go.ChangeAt Go.WideMaps Go.WideElems
namespace Glue
def laidList : List (String × DataW Unit) := [("pandect/unit.names", Rows.laid_pandect_unit_names), ("pandect/unit.below", Rows.laid_pandect_unit_below)]
theorem gNames : Tryz.prog.globalNamed "pandect/unit.names" = some 1 := by kernel_rfl
theorem gBelow : Tryz.prog.globalNamed "pandect/unit.below" = some 0 := by kernel_rfl
theorem tNames : (Tryz.prog.globals[1]?).map (·.type) = some 187 := by kernel_rfl
theorem tBelow : (Tryz.prog.globals[0]?).map (·.type) = some 140 := by kernel_rfl
theorem door_met (os : Os) (args : Array Value) : laidMetH Tryz.prog laidList ((World.doorLaid Tryz.prog 400 os).forCall (fun _ _ => 0) ⟨#[], args, []⟩).memory :=
 laidMetH_of_parts3 (fuel := 8) (laidMet_of_run' 8 (by kernel_rfl) (by kernel_rfl)) (by kernel_rfl) (by kernel_rfl)
theorem globOK_laid {W : World} (h : laidMetH Tryz.prog laidList W) : zwh W := by
 rw [MakeChecks.laidMetH_plain _ _ _ (by kernel_rfl)] at h
 obtain ⟨ps, ⟨g0, t0, cs0, f0, p0, q0, hg0, ht0, hv0, hd0, ⟨g1, t1, cs1, f1, p1, q1, hg1, ht1, hv1, hd1, _, _⟩, _⟩, _, _⟩ := h
 obtain rfl := Option.some.inj (gNames.symm.trans hg0)
 obtain rfl := Option.some.inj (gBelow.symm.trans hg1)
 obtain rfl := Option.some.inj (tNames.symm.trans ht0)
 obtain rfl := Option.some.inj (tBelow.symm.trans ht1)
 have r0 : rel (z83 W) (globD 1) (.pointer (some ⟨1, 0, none⟩)) := zkz hg0 hv0 hd0 (by kernel_rfl)
 have r1 : rel (z83 W) (globD 0) (.pointer (some ⟨0, 0, none⟩)) := zkz hg1 hv1 hd1 (by kernel_rfl)
 intro g
 match g with
 | 0 => first | exact r0 | exact r1
 | 1 => first | exact r0 | exact r1
 | n + 2 => simp only [globD, rel]
end Glue
end Go.Proofs.YtmnabhhdiinfaaaGreatDoor
namespace Go.Proofs.YtmnabhhdiinfaaaGreatDoor
section
open Abs
namespace Tr
structure Idv where
 act : Int
 item : Int
 n : Int
instance : DecidableEq Idv := fun a b => decidable_of_iff (a.act = b.act /\ a.item = b.item /\ a.n = b.n) ⟨fun ⟨h1, h2, h3⟩ => by cases a; cases b; simp_all, fun h => by subst h; exact ⟨rfl, rfl, rfl⟩⟩
def Idv.zero : Idv := ⟨0, 0, 0⟩
structure Wd where
 text : ByteArray
 by_ : Idv
instance : DecidableEq Wd := fun a b => decidable_of_iff (a.text = b.text /\ a.by_ = b.by_) ⟨fun ⟨h1, h2⟩ => by cases a; cases b; simp_all, fun h => by subst h; exact ⟨rfl, rfl⟩⟩
inductive T where
 | mk (id : Idv) (kind : Int) (label : ByteArray) (head words : List Wd) (kids : List T)
def T.id : T -> Idv | .mk i _ _ _ _ _ => i
def T.kind : T -> Int | .mk _ k _ _ _ _ => k
def T.label : T -> ByteArray | .mk _ _ l _ _ _ => l
def T.head : T -> List Wd | .mk _ _ _ h _ _ => h
def T.words : T -> List Wd | .mk _ _ _ _ w _ => w
def T.kids : T -> List T | .mk _ _ _ _ _ k => k
theorem T.eta (t : T) : T.mk t.id t.kind t.label t.head t.words t.kids = t := by cases t; rfl
mutual
theorem z5c {p : T -> Prop} (h : ∀ t, (∀ k ∈ t.kids, p k) -> p t) : ∀ t, p t
 | .mk i k l a b ks => h (.mk i k l a b ks) (ind2 h ks)
theorem ind2 {p : T -> Prop} (h : ∀ t, (∀ k ∈ t.kids, p k) -> p t) : ∀ (ks : List T), ∀ k ∈ ks, p k
 | [], k, hk => by cases hk
 | t :: ts, k, hk => by
  rcases List.mem_cons.1 hk with e | hk
  ·rw [e]; exact z5c h t
  ·exact ind2 h ts k hk
end
mutual
def zhl {β : Type} (f : T -> List β -> β) : T -> β
 | .mk i k l a b ks => f (.mk i k l a b ks) (recL f ks)
def recL {β : Type} (f : T -> List β -> β) : List T -> List β
 | [] => []
 | t :: ts => zhl f t :: recL f ts
end
theorem zw8 {β : Type} (f : T -> List β -> β) : ∀ ks, recL f ks = ks.map (zhl f)
 | [] => rfl
 | t :: ts => by simp [recL, zw8 f ts]
theorem z4i {β : Type} (f : T -> List β -> β) (t : T) : zhl f t = f t (t.kids.map (zhl f)) := by
 cases t with
 | mk i k l a b ks => rw [zhl, zw8]; rfl
end Tr
namespace Abs
open Tr
def z07 (i : Idv) : List D := [.int .i64 i.act, .int .i64 i.item, .int .i64 i.n]
def z0n (i : Idv) : D := .agg (z07 i)
def z22 (l : List Idv) : D := .rsl false 3 (l.map z0n)
def z4j (w : Wd) : List D := [.str w.text, .int .i64 w.by_.act, .int .i64 w.by_.item, .int .i64 w.by_.n]
def z7c (w : Wd) : D := .agg (z4j w)
def z0r (l : List Wd) : D := .rsl false 4 (l.map z7c)
def zw9 (t : T) (ks : List (List D)) : List D := [.int .i64 t.id.act, .int .i64 t.id.item, .int .i64 t.id.n, .int .i64 t.kind, .str t.label, z0r t.head, z0r t.words, .rsl false 8 (ks.map .agg)]
def z0h (t : T) : List D := zhl zw9 t
def z0m (t : T) : D := .agg (z0h t)
def z13 (l : List T) : D := .rsl false 8 (l.map z0m)
theorem z0f (t : T) : z0h t = [.int .i64 t.id.act, .int .i64 t.id.item, .int .i64 t.id.n, .int .i64 t.kind, .str t.label, z0r t.head, z0r t.words, z13 t.kids] := by
 unfold z0h
 rw [z4i, zw9, List.map_map]; rfl
@[go_sem] theorem z0q (t : T) : (z0h t).length = 8 := by rw [z0f]; rfl
@[go_sem] theorem cellsU_kind (t : T) : (z0h t)[3]? = some (.int .i64 t.kind) := by rw [z0f]; rfl
@[go_sem] theorem cellsU_label (t : T) : (z0h t)[4]? = some (.str t.label) := by rw [z0f]; rfl
@[go_sem] theorem cellsU_head (t : T) : (z0h t)[5]? = some (z0r t.head) := by rw [z0f]; rfl
@[go_sem] theorem cellsU_words (t : T) : (z0h t)[6]? = some (z0r t.words) := by rw [z0f]; rfl
@[go_sem] theorem cellsU_kids (t : T) : (z0h t)[7]? = some (z13 t.kids) := by rw [z0f]; rfl
@[go_sem] theorem cellsU_id (t : T) : List.take 3 (z0h t) = [.int .i64 t.id.act, .int .i64 t.id.item, .int .i64 t.id.n] := by rw [z0f]; rfl
@[go_sem] theorem cellsU_take (t : T) : List.take 8 (z0h t) = z0h t := List.take_of_length_le (by rw [z0q]; exact Nat.le_refl _)
@[go_sem] theorem splice_cellsU (a b c d e f g h : D) (t : T) : z1z [a, b, c, d, e, f, g, h] 0 (z0h t) = z0h t := by
 rw [z0f]; rfl
@[go_sem] theorem encU_agg (t : T) : z0m t = .agg (z0h t) := rfl
@[go_sem] theorem encWd_agg (w : Wd) : z7c w = .agg [.str w.text, .int .i64 w.by_.act, .int .i64 w.by_.item, .int .i64 w.by_.n] := rfl
@[go_sem] theorem encId_agg (i : Idv) : z0n i = .agg [.int .i64 i.act, .int .i64 i.item, .int .i64 i.n] := rfl
theorem z0d (l : List Wd) : pureD (z0r l) = true := by simp only [z0r, pureD]; exact z0x (fun _ => rfl) l
theorem z4y (l : List Idv) : pureD (z22 l) = true := by simp only [z22, pureD]; exact z0x (fun _ => rfl) l
theorem zpw {f : T -> D} : ∀ {l : List T}, (∀ t ∈ l, pureD (f t) = true) -> pureD.pureL (l.map f) = true
 | [], _ => rfl
 | t :: l, h => by
  simp only [List.map_cons, pureD.pureL, Bool.and_eq_true]
  exact ⟨h t (by simp), zpw fun k hk => h k (List.mem_cons_of_mem _ hk)⟩
theorem z02 : ∀ t, pureD (z0m t) = true := by
 refine z5c fun t ih => ?_
 rw [z0m, z0f]
 have hk : pureD (z13 t.kids) = true := by simp only [z13, pureD]; exact zpw ih
 simp only [pureD, pureD.pureL, Bool.true_and, Bool.and_true, z0d, hk]
theorem z04 (t : T) : pureD.pureL (z0h t) = true := by have := z02 t; simpa only [z0m, pureD] using this
theorem z0t (l : List T) : pureD (z13 l) = true := by simp only [z13, pureD]; exact z0x z02 l
@[go_sem] theorem zdq (l : List T) : pureD.pureL (l.map z0m) = true := z0x z02 l
@[go_sem] theorem pureL_encWd (l : List Wd) : pureD.pureL (l.map z7c) = true := z0x (fun _ => rfl) l
@[go_sem] theorem pureL_encId (l : List Idv) : pureD.pureL (l.map z0n) = true := z0x (fun _ => rfl) l
attribute [go_sem] z04
@[go_sem] theorem idEq (i j : Idv) : (decide (i.act = j.act) && (decide (i.item = j.item) && decide (i.n = j.n))) = decide (i = j) := by
 obtain ⟨a, b, c⟩ := i; obtain ⟨a', b', c'⟩ := j
 rw [Bool.eq_iff_iff]; simp [Idv.mk.injEq]
@[go_sem] theorem idEq' (i j : Idv) : (decide (i.act = j.act) && decide (i.item = j.item) && decide (i.n = j.n)) = decide (i = j) := by rw [Bool.and_assoc, idEq]
@[go_sem] theorem idZ (i : Idv) : (decide (i.act = 0) && (decide (i.item = 0) && decide (i.n = 0))) = decide (i = Idv.zero) := idEq i Idv.zero
@[go_sem] theorem idZ' (i : Idv) : (decide (i.act = 0) && decide (i.item = 0) && decide (i.n = 0)) = decide (i = Idv.zero) := idEq' i Idv.zero
@[go_sem] theorem wdEq (u v : Wd) : (decide (u.text = v.text) && decide (u.by_ = v.by_)) = decide (u = v) := by
 obtain ⟨a, b⟩ := u; obtain ⟨a', b'⟩ := v
 rw [Bool.eq_iff_iff]; simp [Wd.mk.injEq]
end Abs
end
open _root_.Go.Proofs.Tryz
section
open Abs Facts Tr
attribute [local irreducible] awp
namespace Tr
def za9 (l : List Wd) : Bool := l.all (fun w => decide (w.text.size <= 100)) && decide (l.length <= 300)
def zgo (t : T) : Bool := zhl (fun t l => decide (t.label.size <= 30) && (za9 t.head && (za9 t.words && l.all id))) t
theorem zmo (t : T) : zgo t = (decide (t.label.size <= 30) && (za9 t.head && (za9 t.words && t.kids.all zgo))) := by
 unfold zgo
 rw [z4i, List.all_map]; rfl
theorem zaa {α : Type} {f : α -> Bool} {l : List α} {k : Nat} (hk : k < l.length) (h : f l[k] = false) : l.all f = false := List.all_eq_false.2 ⟨_, List.getElem_mem hk, by simp [h]⟩
theorem z6y {α : Type} {f : α -> Bool} {l : List α} {k : Nat} (hk : k < l.length) (h : (l.take k).all f = true) (h2 : f l[k] = true) : (l.take (k + 1)).all f = true := by
 rw [List.take_succ_eq_append_getElem hk, List.all_append, h, List.all_cons, h2]; rfl
theorem z6z {α : Type} {f : α -> Bool} {l : List α} {k : Nat} (hk : ¬ k < l.length) (h : (l.take k).all f = true) : l.all f = true := by rwa [List.take_of_length_le (by omega)] at h
end Tr
theorem zra (l : List Wd) (hl : l.length <= maxLen) : PC prog 92 [z0r l] (.bool (za9 l)) := by
 unfold maxLen at hl
 refine z1g 1 (by simp only [pureD.pureL, z0d, Bool.and_self]) rfl (z14 [] func92 rfl (by decide +kernel) rfl ?_)
 show awp _ _ (Code.seq _ _) _ _
 repeat' (first | refine zqj ?_ | ((refine zqh fun K J => ?_); (simp (disch := omega) only [go_sem, z0r])) | refine zqa ?_ | (refine J _ ?_; clear J K))
 (refine z4m (fun U st => ∃ (k : _), U = l.length - k /\ st.t 0 = z0r l /\ st.t 3 = .int .i64 k /\ (k <= l.length) /\ ((l.take k).all (fun w => decide (w.text.size <= 100)) = true)) ?_ ?_); rotate_left; (rintro U st ⟨k, rfl, s0, s3, sp0, sp1⟩); rotate_left
 ·(refine ⟨_, 0, rfl, ?_⟩); (simp (disch := omega) only [go_sem, Nat.reduceBEq, true_and, Int.natCast_zero, z0r])
  try simp
 repeat' (first | refine zqj ?_ | ((first | refine zqh fun K J => ?_ | refine zqr fun K J => ?_); (simp (disch := omega) only [go_sem, Nat.reduceBEq, ↓reduceIte, reduceCtorEq, Nat.reduceAdd, s0, s3, z0r])) | ((first | refine zqd _ rfl (fun hc => ?_) (fun hc => ?_) | refine zqm _ rfl (fun hc => ?_) (fun hc => ?_)) <;> (((try simp only [z0b] at hc); (try omega)))) | refine zqa ?_ | refine zqb ?_ | refine zqc ?_ | refine zqk ?_ | refine zqn ?_ | refine zqv ?_ | refine zqx ?_ | refine zqy ?_ | refine zqz ?_ | refine z6q ?_ | refine zqp ?_ | refine zqo ?_ | refine zqu (by simp only [go_sem]; rfl) rfl ?_ | (refine J _ ?_; clear J K))
 ·have hk : k < l.length := by omega
  refine z03 ?_
  have : l.all (fun w => decide (w.text.size <= 100)) = false := zaa hk (decide_eq_false (by omega))
  simp only [za9, this]; rfl
 ·have hk : k < l.length := by omega
  (refine Exists.intro _ (And.intro ?_ ⟨k + 1, rfl, ?_⟩)); rotate_left; (simp (disch := omega) only [go_sem, Nat.reduceBEq, s0, s3, true_and, Int.natCast_add, Int.natCast_one]); rotate_left
  ·omega
  ·exact ⟨by omega, z6y hk sp1 (decide_eq_true (by omega))⟩
 ·have := z6z (by omega) sp1
  refine z03 ?_
  simp only [za9, this, Bool.true_and]
  congr 1; simp only [eq_iff_iff]; omega
namespace Tr
def fitB (t : T) : Bool := zhl (fun t l => decide (t.head.length <= maxLen) && (decide (t.words.length <= maxLen) && (decide (t.kids.length <= maxLen) && l.all id))) t
theorem zbj (t : T) : fitB t = true ↔ t.head.length <= maxLen /\ t.words.length <= maxLen /\ t.kids.length <= maxLen /\ ∀ k ∈ t.kids, fitB k = true := by
 unfold fitB
 rw [z4i]
 simp only [List.all_map, Bool.and_eq_true, decide_eq_true_iff, List.all_eq_true]
 rfl
def z3x (deep most : Int) : List (Int -> Int -> Int) -> Int -> Int
 | [], n => n
 | f :: fs, n => if n <= most then z3x deep most fs (n + f (deep + 1) (most - n)) else n
def z4e (t : T) : Int -> Int -> Int := zhl (fun _ l deep most => if 20 < deep then most + 1 else z3x deep most l 1) t
theorem zk6 (t : T) (deep most : Int) : z4e t deep most = if 20 < deep then most + 1 else z3x deep most (t.kids.map z4e) 1 := by
 unfold z4e; rw [z4i]
theorem zio (deep most : Int) (f : Int -> Int -> Int) : ∀ (l : List (Int -> Int -> Int)) (n : Int), z3x deep most l n <= most -> z3x deep most (l ++ [f]) n = z3x deep most l n + f (deep + 1) (most - z3x deep most l n)
 | [], n, h => by simp only [z3x] at h; simp only [List.nil_append, z3x]; rw [if_pos h]
 | g :: l, n, h => by
  simp only [List.cons_append, z3x] at h ⊢
  split at h
  ·rename_i hn
   simp only [hn, if_true]
   exact zio deep most f l _ h
  ·omega
theorem ziq (deep most : Int) : ∀ (l r : List (Int -> Int -> Int)) (n : Int), most < z3x deep most l n -> z3x deep most (l ++ r) n = z3x deep most l n
 | [], r, n, h => by
  simp only [z3x] at h
  simp only [List.nil_append]
  cases r with
  | nil => rfl
  | cons f r => simp only [z3x]; rw [if_neg (by omega)]
 | g :: l, r, n, h => by
  simp only [List.cons_append, z3x] at h ⊢
  split
  ·rename_i hn
   simp only [hn, if_true] at h
   exact ziq deep most l r _ h
  ·rfl
theorem zab {deep most : Int} : ∀ (l : List T), (∀ k ∈ l, ∀ (deep most : Int), 0 <= most -> 1 <= z4e k deep most /\ z4e k deep most <= most + 1) -> ∀ n : Int, 1 <= n -> n <= most + 1 -> 1 <= z3x deep most (l.map z4e) n /\ z3x deep most (l.map z4e) n <= most + 1
 | [], _, n, h1, h2 => ⟨h1, h2⟩
 | k :: l, hk, n, h1, h2 => by
  simp only [List.map_cons, z3x]
  split
  ·have := hk k (by simp) (deep + 1) (most - n) (by omega)
   exact zab l (fun q hq => hk q (List.mem_cons_of_mem _ hq)) _ (by omega) (by omega)
  ·exact ⟨h1, h2⟩
theorem z7y : ∀ (t : T) (deep most : Int), 0 <= most -> 1 <= z4e t deep most /\ z4e t deep most <= most + 1 := by
 refine z5c fun t ih deep most hm => ?_
 rw [zk6]
 split
 ·omega
 ·exact zab t.kids ih 1 (by omega) (by omega)
end Tr
theorem pc_words : ∀ t : T, fitB t = true -> PC prog 35 [z0m t] (.bool (zgo t)) := by
 refine z5c fun t ih hfit => ?_
 obtain ⟨h1, h2, h3, h4⟩ := (zbj t).1 hfit
 have ih := fun k hk => ih k hk (h4 k hk)
 have hsh := zra t.head h1
 have hsw := zra t.words h2
 unfold maxLen at h1 h2 h3
 rw [zmo]
 refine z1g 1 (by simp only [pureD.pureL, z02, Bool.and_self]) rfl (z14 [] func35 rfl (by decide +kernel) rfl ?_)
 show awp _ _ (Code.seq _ _) _ _
 repeat' (first | refine zqj ?_ | ((first | refine zqh fun K J => ?_ | refine zqs (hsh) ?_ | refine zqs (hsw) ?_); (simp (disch := omega) only [go_sem, Nat.reduceBEq, ↓reduceIte, reduceCtorEq, Nat.reduceAdd])) | ((refine zqd _ rfl (fun hc => ?_) (fun hc => ?_)) <;> (first | (cases hc; done) | ((try simp only [z0b] at hc); (try omega)))) | refine zqa ?_ | refine zqb ?_ | refine zqg ?_ | refine zqu (by simp only [go_sem]; rfl) rfl ?_ | (refine J _ ?_; clear J K) | (refine zqf (fun hb => ?_) (fun hb => ?_) <;> (have hb2 := hb; try simp only [z0b] at hb2) <;> ((first | have hb3 : (_ : Bool) = _ := hb2 | have hb3 := eq_false hb2 | have hb3 := eq_true hb2); (simp (disch := omega) only [go_sem, Nat.reduceBEq, ↓reduceIte, reduceCtorEq, Nat.reduceAdd, hb3]); clear hb hb3; (try omega))))
 rotate_right
 all_goals first | exact z03 (by simp_all; try omega) | skip
 have hlab : decide (t.label.size <= 30) = true := decide_eq_true (by omega)
 rw [hlab, ‹za9 t.head = true›, ‹za9 t.words = true›, Bool.true_and, Bool.true_and, Bool.true_and]
 (refine z4m (fun U st => ∃ (i : _), U = t.kids.length - i /\ st.t 1 = .ptr 0 0 /\ st.t 3 = .int .i64 i /\ st.H 0 = some (.box 27 (z0h t)) /\ (i <= t.kids.length) /\ ((t.kids.take i).all zgo = true) /\ (1 <= st.nx)) ?_ ?_); rotate_left; (rintro U st ⟨i, rfl, s1, s3, sH0, sp0, sp1, sp2⟩); rotate_left
 ·(refine ⟨_, 0, rfl, ?_⟩); (simp (disch := omega) only [go_sem, Nat.reduceBEq, Nat.reduceLeDiff, true_and, and_true, Int.natCast_zero])
  try simp
 have hin := fun (h : i < t.kids.length) => ih t.kids[i] (List.getElem_mem h)
 repeat' (first | refine zqj ?_ | ((first | refine zqh fun K J => ?_ | refine zqr fun K J => ?_ | refine zqs (hin (by omega)) ?_); (simp (disch := omega) only [go_sem, Nat.reduceBEq, ↓reduceIte, reduceCtorEq, Nat.reduceAdd, s1, s3, sH0, z13])) | ((first | refine zqd _ rfl (fun hc => ?_) (fun hc => ?_) | refine zqm _ rfl (fun hc => ?_) (fun hc => ?_)) <;> (((try simp only [z0b] at hc); (try omega)))) | refine zqa ?_ | refine zqb ?_ | refine zqc ?_ | refine zqk ?_ | refine zqn ?_ | refine zqv ?_ | refine zqx ?_ | refine zqy ?_ | refine zqz ?_ | refine z6q ?_ | refine zqp ?_ | refine zqo ?_ | refine zqu (by simp only [go_sem]; rfl) rfl ?_ | (refine J _ ?_; clear J K))
 ·exact z03 (zaa (k := i) (by omega) (by assumption)).symm
 ·(refine Exists.intro _ (And.intro ?_ ⟨i + 1, rfl, ?_⟩)); rotate_left; (simp (disch := omega) only [go_sem, Nat.reduceBEq, s1, s3, sH0, true_and, Int.natCast_add, Int.natCast_one]); rotate_left
  ·omega
  ·exact ⟨by omega, z6y (by omega) sp1 (by assumption), by omega⟩
 ·exact z03 (z6z (by omega) sp1).symm
theorem pc_size : ∀ t : T, fitB t = true -> ∀ deep most : Int, 0 <= deep -> deep <= 21 -> 0 <= most -> most <= 1000 -> PC prog 34 [z0m t, .int .i64 deep, .int .i64 most] (.int .i64 (z4e t deep most)) := by
 refine z5c fun t ih hfit deep most hd0 hd1 hm0 hm1 => ?_
 obtain ⟨h1, h2, h3, h4⟩ := (zbj t).1 hfit
 unfold maxLen at h1 h2 h3
 have hb := z7y t deep most hm0
 rw [zk6] at hb ⊢
 refine z1g 1 (by simp only [pureD.pureL, z02, pureD, Bool.and_self]) rfl (z14 [] func34 rfl (by decide +kernel) rfl ?_)
 show awp _ _ (Code.seq _ _) _ _
 repeat' (first | refine zqj ?_ | ((refine zqh fun K J => ?_); (simp (disch := omega) only [go_sem, Nat.reduceBEq, ↓reduceIte])) | ((refine zqd _ rfl (fun hc => ?_) (fun hc => ?_)) <;> (((try simp only [z0b] at hc); (try omega)))) | refine zqa ?_ | refine zqb ?_ | refine zqg ?_ | refine zqu (by simp only [go_sem]; rfl) rfl ?_ | (refine J _ ?_; clear J K))
 ·refine z1e ?_
  rw [if_pos (by assumption)]
 ·rw [if_neg (by assumption)] at hb ⊢
  (refine z4m (fun U st => ∃ (i : _), U = t.kids.length - i /\ st.t 1 = .int .i64 deep /\ st.t 2 = .int .i64 most /\ st.t 3 = .ptr 0 0 /\ st.t 7 = .int .i64 (z3x deep most ((t.kids.take i).map z4e) 1) /\ st.t 8 = .int .i64 i /\ st.H 0 = some (.box 27 (z0h t)) /\ (i <= t.kids.length) /\ (1 <= st.nx)) ?_ ?_); rotate_left; (rintro U st ⟨i, rfl, s1, s2, s3, s7, s8, sH0, sp0, sp1⟩); rotate_left
  ·(refine ⟨_, 0, rfl, ?_⟩); (simp (disch := omega) only [go_sem, Nat.reduceBEq, Nat.reduceLeDiff, true_and, and_true, and_self, Int.natCast_zero, List.map_nil])
   try simp [z3x]
  have hin := fun (h : i < t.kids.length) => ih t.kids[i] (List.getElem_mem h) (h4 _ (List.getElem_mem h)) (deep + 1) (most - z3x deep most ((t.kids.take i).map z4e) 1)
  have hpb := zab (deep := deep) (most := most) (t.kids.take i) (fun k _ => z7y k) 1 (by omega) (by omega)
  have hnext : ∀ h : i < t.kids.length, z3x deep most ((t.kids.take i).map z4e) 1 <= most -> z3x deep most ((t.kids.take (i + 1)).map z4e) 1 = z3x deep most ((t.kids.take i).map z4e) 1 + z4e t.kids[i] (deep + 1) (most - z3x deep most ((t.kids.take i).map z4e) 1) := fun h hle => by
   rw [List.take_succ_eq_append_getElem h, List.map_append, List.map_cons, List.map_nil, zio _ _ _ _ _ hle]
  have hkb := fun (h : i < t.kids.length) => z7y t.kids[i] (deep + 1) (most - z3x deep most ((t.kids.take i).map z4e) 1)
  have hstop : most < z3x deep most ((t.kids.take i).map z4e) 1 -> z3x deep most (t.kids.map z4e) 1 = z3x deep most ((t.kids.take i).map z4e) 1 := fun h => by
   have := ziq deep most ((t.kids.take i).map z4e) ((t.kids.drop i).map z4e) 1 h
   rwa [<- List.map_append, List.take_append_drop] at this
  repeat' (first | refine zqj ?_ | ((first | refine zqh fun K J => ?_ | refine zqr fun K J => ?_ | refine zqs (hin (by omega) (by omega) (by omega) (by omega) (by omega)) ?_); (simp (disch := omega) only [go_sem, Nat.reduceBEq, ↓reduceIte, reduceCtorEq, Nat.reduceAdd, s1, s2, s3, s7, s8, sH0, z13])) | ((refine zqd _ rfl (fun hc => ?_) (fun hc => ?_)) <;> (first | (cases hc; done) | ((try simp only [z0b] at hc); (try omega)))) | refine zqa ?_ | refine zqb ?_ | refine zqc ?_ | refine zqn ?_ | refine zqv ?_ | refine zqy ?_ | refine zqz ?_ | refine zqp ?_ | refine zqu (by simp only [go_sem]; rfl) rfl ?_ | (refine J _ ?_; clear J K) | (refine zqf (fun hb => ?_) (fun hb => ?_) <;> (have hb2 := hb; try simp only [z0b] at hb2) <;> ((first | have hb3 := eq_false hb2 | have hb3 := eq_true hb2); (simp (disch := omega) only [go_sem, Nat.reduceBEq, ↓reduceIte, hb3, s2, s7]); clear hb hb3; (try omega))))
  ·have hk := hkb (by omega) (by omega)
   have hn := hnext (by omega) (by assumption)
   (refine Exists.intro _ (And.intro ?_ ⟨i + 1, rfl, ?_⟩)); rotate_left; (simp (disch := omega) only [go_sem, Nat.reduceBEq, s1, s2, s3, s7, s8, sH0, true_and, Int.natCast_add, Int.natCast_one]); rotate_left
   ·omega
   ·rw [hn]
    exact ⟨rfl, by omega, by omega⟩
  ·exact z1e (hstop (by omega)).symm
  ·have : t.kids.take i = t.kids := List.take_of_length_le (by omega)
   rw [this]
   exact z1e rfl
namespace Tr
def fewB (t : T) (most : Int) : Bool := decide (z4e t 0 most <= most) && zgo t
end Tr
theorem pc_Few (t : T) (hfit : fitB t = true) (most : Int) (hm0 : 0 <= most) (hm1 : most <= 1000) : PC prog 10 [z0m t, .int .i64 most] (.bool (fewB t most)) := by
 refine z1g 1 (by simp only [pureD.pureL, z02, pureD, Bool.and_self]) rfl (z14 [] func10 rfl (by decide +kernel) rfl ?_)
 show awp _ _ (Code.seq _ _) _ _
 have hs := pc_size t hfit 0 most (by omega) (by omega) hm0 hm1
 have hw := pc_words t hfit
 repeat' (first | ((first | refine zqh fun K J => ?_ | refine zqs (hs) ?_ | refine zqs (hw) ?_); (simp (disch := omega) only [go_sem, Nat.reduceBEq, ↓reduceIte, Nat.reduceAdd, Nat.reduceLeDiff])) | refine zqn ?_ | refine zqu (by simp only [go_sem]; rfl) rfl ?_ | (refine J _ ?_; clear J K) | (refine zqf (fun hb => ?_) (fun hb => ?_) <;> (have hb2 := hb; try simp only [z0b] at hb2) <;> ((first | have hb3 := eq_false hb2 | have hb3 := eq_true hb2); (simp (disch := omega) only [go_sem, Nat.reduceBEq, ↓reduceIte, Nat.reduceAdd, Nat.reduceLeDiff, hb3]); clear hb hb3; (try omega))))
 ·exact z03 (by unfold fewB; rw [decide_eq_true (by assumption), Bool.true_and])
 ·exact z03 (by unfold fewB; rw [decide_eq_false (by assumption), Bool.false_and])
end
end Go.Proofs.YtmnabhhdiinfaaaGreatDoor
namespace Go.Proofs.YtmnabhhdiinfaaaGreatDoor.Glue
open Go.ChangeShapes Go.WideShapes Go.ChangeAt Go.RowKit Abs Facts Tr
section
open Go.ChangeShapes
variable {H : Type} {enc : TypeId × Value -> H} {P : Program} {w : World} {base : Nat} {spare : Nat -> Bool} {held : Bool}
end
theorem ownK : ownKnob Tryz.prog.godebug = none := by kernel_rfl
theorem laidOutK : laidOutB Tryz.prog = true := by kernel_rfl
def S : List TypeId := [4, 3, 9, 23, 70, 72, 24, 27, 25]
set_option maxRecDepth 100000
theorem closedS : zga Tryz.prog S = true := by decide +kernel
theorem zkb {n : Nat} {ds : List D} (h : z4z Tryz.prog n 23 ds) : ∃ i : Idv, ds = z07 i := by
 obtain ⟨m, rfl, h⟩ := z45 Tryz.underlying23 h
 obtain ⟨d1, r1, rfl, h1, d2, r2, rfl, h2, d3, r3, rfl, h3, rfl⟩ := h
 obtain ⟨i, rfl, _⟩ := z44 Tryz.underlying3 h1
 obtain ⟨j, rfl, _⟩ := z44 Tryz.underlying3 h2
 obtain ⟨k, rfl, _⟩ := z44 Tryz.underlying3 h3
 exact ⟨⟨i, j, k⟩, rfl⟩
theorem ztt {n : Nat} {ds : List D} (h : z4z Tryz.prog n 72 ds) : ∃ w : Wd, ds = z4j w := by
 obtain ⟨m, rfl, h⟩ := z45 Tryz.underlying72 h
 obtain ⟨d1, r1, rfl, h1, d2, r2, rfl, h2, rfl⟩ := h
 obtain ⟨s, rfl, _⟩ := zcn Tryz.underlying9 h1
 obtain ⟨m', rfl, h3⟩ := z45 Tryz.underlying70 h2
 obtain ⟨e1, q1, rfl, g1, e2, q2, rfl, g2, e3, q3, rfl, g3, rfl⟩ := h3
 obtain ⟨i, rfl, _⟩ := z44 Tryz.underlying3 g1
 obtain ⟨j, rfl, _⟩ := z44 Tryz.underlying3 g2
 obtain ⟨k, rfl, _⟩ := z44 Tryz.underlying3 g3
 exact ⟨⟨s, ⟨i, j, k⟩⟩, rfl⟩
theorem zh1 {n : Nat} {ds : List D} (h : z4z Tryz.prog n 24 ds) : ∃ l : List Wd, ds = [z0r l] /\ l.length <= maxLen := by
 obtain ⟨m, parts, rfl, hl, hp, rfl⟩ := z97 Tryz.underlying24 h
 obtain ⟨l, rfl, _⟩ := z5e (f := z4j) (q := fun _ => True) (fun p hp => by obtain ⟨w, e⟩ := ztt hp; exact ⟨w, e, trivial⟩) parts hp
 refine ⟨l, ?_, by simpa using hl⟩
 rw [zaz, zdw, List.map_map]; rfl
theorem ziu : ∀ (n : Nat) {ds : List D}, z4z Tryz.prog n 27 ds -> ∃ t : T, ds = z0h t /\ fitB t = true := by
 intro n
 induction n using Nat.strongRecOn with
 | ind n ih =>
  intro ds h
  obtain ⟨m, rfl, h⟩ := z45 Tryz.underlying27 h
  obtain ⟨d1, r1, rfl, h1, d2, r2, rfl, h2, d3, r3, rfl, h3, d4, r4, rfl, h4, d5, r5, rfl, h5, d6, r6, rfl, h6, rfl⟩ := h
  obtain ⟨i, rfl⟩ := zkb h1
  obtain ⟨k, rfl, _⟩ := z44 Tryz.underlying3 h2
  obtain ⟨s, rfl, _⟩ := zcn Tryz.underlying9 h3
  obtain ⟨a, rfl, ha⟩ := zh1 h4
  obtain ⟨b, rfl, hb⟩ := zh1 h5
  obtain ⟨q, parts, rfl, hl, hp, rfl⟩ := z97 Tryz.underlying25 h6
  obtain ⟨l, rfl, hq⟩ := z5e (f := z0h) (q := fun t => fitB t = true) (fun p hp => ih q (by omega) hp) parts hp
  refine ⟨.mk i k s a b l, ?_, ?_⟩
  ·rw [z0f, z0l, z30, List.map_map]; rfl
  ·rw [zbj]
   exact ⟨ha, hb, (show l.length <= _ by simpa using hl), hq⟩
section
variable {H : Type} {enc : TypeId × Value -> H} {W : World} {base : Nat} {r : Reach} {b0 : Nat} {spare : Nat -> Bool} {held : Bool} {v : Value} {d : DataW H} {p : List MemPlace}
theorem rd_unit (hv : Value.okWide Tryz.prog W r b0 27 v) (h : DataW.Trod enc Tryz.prog W base spare held 27 v d p) : ∃ t : T, fitB t = true /\ rel (z83 W) (z0m t) v := by
 obtain ⟨cs, rfl, _⟩ := okWide_struct Tryz.underlying27 hv
 obtain ⟨m, ds, ht, hr⟩ := agg_arg closedS (by decide) h
 obtain ⟨q, rfl, hq⟩ := ziu _ ht
 exact ⟨q, hq, hr⟩
end
end Go.Proofs.YtmnabhhdiinfaaaGreatDoor.Glue
namespace Go.Proofs.YtmnabhhdiinfaaaGreatDoor.Glue
open Go.ChangeShapes Go.WideShapes Go.ChangeAt Go.RowKit Abs Facts Tr
set_option maxRecDepth 100000
theorem zn8 {n : Nat} {ds : List D} (h : z4z Tryz.prog n 72 ds) : ∃ w : Wd, ds = z4j w /\ w.text.size <= maxLen := by
 obtain ⟨m, rfl, h⟩ := z45 Tryz.underlying72 h
 obtain ⟨d1, r1, rfl, h1, d2, r2, rfl, h2, rfl⟩ := h
 obtain ⟨s, rfl, hs⟩ := zcn Tryz.underlying9 h1
 obtain ⟨m', rfl, h3⟩ := z45 Tryz.underlying70 h2
 obtain ⟨e1, q1, rfl, g1, e2, q2, rfl, g2, e3, q3, rfl, g3, rfl⟩ := h3
 obtain ⟨i, rfl, _⟩ := z44 Tryz.underlying3 g1
 obtain ⟨j, rfl, _⟩ := z44 Tryz.underlying3 g2
 obtain ⟨k, rfl, _⟩ := z44 Tryz.underlying3 g3
 exact ⟨⟨s, ⟨i, j, k⟩⟩, rfl, hs⟩
section
variable {H : Type} {enc : TypeId × Value -> H} {W : World} {base : Nat} {r : Reach} {b0 : Nat} {spare : Nat -> Bool} {held : Bool} {v : Value} {d : DataW H} {p : List MemPlace}
end
end Go.Proofs.YtmnabhhdiinfaaaGreatDoor.Glue
namespace Go.Proofs.YtmnabhhdiinfaaaGreatDoor.Abs
open Go.RowKit
variable {P : Program}
def hiH (n : Nat) (H : HM) : HM := fun id => if n <= id then H id else none
theorem hi_get {n id : Nat} {H : HM} (h : n <= id) : hiH n H id = H id := if_pos h
theorem zwf {s : RS} {w : World} (h : RH P s w) (H' : HM) (hd : ∀ id, H' id = s.H id \/ H' id = none) : RH P { s with H := H' } w := by
 have hl : Later s { s with H := H' } := ⟨Nat.le_refl _, fun _ _ h => h, fun id _ => by
  rcases hd id with e | e
  ·show objLe (s.H id) (H' id) _ _
   rw [e]; exact objLe.refl _ _
  ·show objLe (s.H id) (H' id) _ _
   rw [e]
   unfold objLe
   cases s.H id with
   | none => rfl
   | some o => cases o <;> exact .inl rfl⟩
 have ho : ∀ k, owned { s with H := H' } k -> owned s k := by
  rintro k ⟨id, hid, hH, hb⟩
  rcases hd id with e | e
  ·exact ⟨id, hid, by rw [<- e]; exact hH, hb⟩
  ·exact (hH e).elim
 refine ⟨fun a u hm => ⟨(h.mem a u hm).1, fun hk => (h.mem a u hm).2 (ho _ hk)⟩, fun id o hido => ?_, fun i j hi hj hij hb => ?_, fun g => rel.later hl _ _ (h.glob g)⟩
 ·have hido : H' id = some o := hido
  rcases hd id with e | e
  ·rw [e] at hido
   obtain ⟨h1, h2⟩ := h.obj id o hido
   exact ⟨h1, h2.mono hl fun b _ => rfl⟩
  ·rw [e] at hido; cases hido
 ·have hi' : s.H i ≠ none := by
   rcases hd i with e | e
   ·rw [<- e]; exact hi
   ·exact (hi e).elim
  have hj' : s.H j ≠ none := by
   rcases hd j with e | e
   ·rw [<- e]; exact hj
   ·exact (hj e).elim
  exact h.apart i j hi' hj' hij hb
noncomputable def finS (s : RS) (w : World) (n : Nat) : RS :=
 {m := (RS.shut { s with H := hiH n s.H } w).m, κ := s.κ, H := cutH n s.H, nx := n }
theorem AC_fin {f : FuncId} {ds : List D} {H : HM} {nx k : Nat} {r : D} {KK : HM -> Prop} (hr : pureD r = true) (h : AC P f ds H nx fun r' H' _ => (∃ d, z2y P (hiH nx H') k r' = some d /\ Le d r) /\ KK H')
  (hk : ∀ H', KK H' -> ∀ id o, id < nx -> H' id = some o -> H id = some o \/ lowO nx o = true) :
  AC P f ds H nx fun r' H2 nx2 => r' = r /\ nx2 = nx /\ ∃ H', KK H' /\ H2 = cutH nx H' := by
 refine ⟨h.1, fun s w vs h1 h2 h3 h4 => (h.2 s w vs h1 h2 h3 h4).mono fun e w' ⟨v, r', s', he, ⟨⟨d, hd, hle⟩, J⟩, hstep, hRH, hrel⟩ => ?_⟩
 subst h1; subst h2
 have hlow := hk _ J
 let s1 : RS := { s' with H := hiH s.nx s'.H }
 have hl1 : Later s' s1 := ⟨Nat.le_refl _, fun _ _ h => h, fun id _ => by
  show objLe (s'.H id) (hiH s.nx s'.H id) _ _
  unfold hiH
  split
  ·exact objLe.refl _ _
  ·unfold objLe
   cases s'.H id with
   | none => rfl
   | some o => cases o <;> exact .inl rfl⟩
 have hRH1 : RH P s1 w' := zwf hRH _ fun id => by
  unfold hiH; split
  ·exact .inl rfl
  ·exact .inr rfl
 obtain ⟨hst1, hRH2⟩ := zav hRH1
 have hrel1 : rel s1 r' v := rel.later hl1 _ _ hrel
 have hd2 : rel (s1.shut w') d v := zdp hRH1 k r' v d hrel1 hd
 have hr2 : rel (s1.shut w') r v := hle _ _ hd2
 let s2 : RS := finS s' w' s.nx
 have hm2 : ∀ a u, s'.m a = some u -> s2.m a = some u := fun a u hm => hst1.mem a u hm
 have hH : ∀ id, id < s.nx -> s2.H id = s'.H id /\ s2.κ id = s'.κ id := fun id hid => ⟨if_pos hid, rfl⟩
 have hown : ∀ k, owned s2 k -> ∃ id, id < s.nx /\ s'.H id ≠ none /\ blockOf (s'.κ id) = some k := fun k ⟨id, hid, h5, h6⟩ => by
  have hid : id < s.nx := hid
  rw [(hH id hid).1] at h5
  exact ⟨id, hid, h5, h6⟩
 have hown' : ∀ k, owned s2 k -> owned s' k := fun k hk2 => by
  obtain ⟨id, hid, h5, h6⟩ := hown k hk2
  exact ⟨id, Nat.lt_of_lt_of_le hid hstep.nx, h5, h6⟩
 -- memory: what was read, and the objects of the callee's own
 have hmem : ∀ a u, s2.m a = some u -> (s'.m a = some u) \/ (w'.cell? a = some u /\ ∃ id, s.nx <= id /\ s'.H id ≠ none /\ blockOf (s'.κ id) = some a.block) := by
  intro a u hu
  have hu : (s1.shut w').m a = some u := hu
  simp only [RS.shut] at hu
  split at hu
  ·rename_i ho
   obtain ⟨id, hid, h5, h6⟩ := ho
   have h5 : hiH s.nx s'.H id ≠ none := h5
   unfold hiH at h5
   split at h5
   ·rename_i hge
    exact .inr ⟨hu, id, hge, h5, h6⟩
   ·exact (h5 rfl).elim
  ·exact .inl hu
 have hcut : ∀ (d : D) (v : Value), lowD s.nx d = true -> rel s' d v -> rel s2 d v := zjl (s := s') (s' := s2) hm2 (Nat.le_refl _) hH
 refine ⟨v, r, s2, he, ⟨rfl, rfl, s'.H, J, rfl⟩, ?_, ?_, z2o (s := s1.shut w') (s' := s2) (fun _ _ h => h) _ _ hr hr2⟩
 ·refine ⟨hstep.os, hstep.tape, hstep.output, hstep.size, Nat.le_refl _, fun a u hm => hm2 a u (hstep.mem a u hm), fun a u hu => ?_, fun id hid => by rw [(hH id hid).1]; exact hstep.objs id hid, hstep.keep, fun k hk' => hstep.own k (hown' k hk')⟩
  rcases hmem a u hu with h5 | ⟨_, id, hge, h6, h7⟩
  ·exact hstep.new a u h5
  ·rcases hstep.own a.block ⟨id, hRH.fresh h6, h6, h7⟩ with h8 | h8
   ·exact .inr (.inr h8)
   ·exact .inr (.inl h8)
 ·refine ⟨fun a u hu => ?_, fun id o ho => ?_, fun i j hi hj hij hb => ?_, fun g => ?_⟩
  ·rcases hmem a u hu with h5 | ⟨h5, id, hge, h6, h7⟩
   ·exact ⟨(hRH.mem a u h5).1, fun ho => (hRH.mem a u h5).2 (hown' _ ho)⟩
   ·refine ⟨h5, fun ho => ?_⟩
    obtain ⟨j, hj, h8, h9⟩ := hown _ ho
    exact hRH.apart j id h8 h6 (by omega) (by rw [h9]; simp) (by rw [h9, h7])
  ·have hid : id < s.nx := by
    rcases Nat.lt_or_ge id s.nx with h9 | h9
    ·exact h9
    ·have : s2.H id = none := if_neg (by omega)
     rw [this] at ho; cases ho
   rw [(hH id hid).1] at ho
   refine ⟨hid, zm0 (s := s') (s' := s2) (n := s.nx) hm2 (Nat.le_refl _) hH ?_ (hRH.obj id o ho).2⟩
   rcases hlow id o hid ho with h9 | h9
   ·exact zlz (s := s) (h3.obj id o h9).2
   ·exact h9
  ·have lt : ∀ i, s2.H i ≠ none -> i < s.nx /\ s'.H i ≠ none := fun i hi => by
    rcases Nat.lt_or_ge i s.nx with h9 | h9
    ·exact ⟨h9, by rw [<- (hH i h9).1]; exact hi⟩
    ·exact (hi (if_neg (by omega))).elim
   exact hRH.apart i j (lt i hi).2 (lt j hj).2 hij hb
  ·exact hcut _ _ (zay _ _ (z76 g)) (hRH.glob g)
theorem RC_fin {f : FuncId} {ds : List D} {H : HM} {nx k : Nat} {r : D} (hr : pureD r = true)
  (h : AC P f ds H nx fun r' H' _ => (∃ d, z2y P (hiH nx H') k r' = some d /\ Le d r) /\ ∀ id, id < nx -> H' id = H id) : RC P f ds H nx r := by
 have h1 := AC_fin hr h (fun H' hk id o hid ho => .inl (by rw [<- hk id hid]; exact ho))
 refine ⟨h1.1, fun s w vs e1 e2 e3 e4 => (h1.2 s w vs e1 e2 e3 e4).mono fun e w' ⟨v, r1, s1, he, ⟨hr', hnx, H', hk, hcut⟩, hstep, hRH, hrel⟩ => ⟨v, r1, s1, he, ⟨hr', ?_, hnx⟩, hstep, hRH, hrel⟩⟩
 subst e1; subst e2
 rw [hcut]; exact zjm e3 hk
theorem nx_facts {nx : Nat} (h : 3 < nx + 1) : (nx == nx + 1) = false /\ (nx == nx + 2) = false /\ (nx == nx + 3) = false /\ (nx + 1 == nx) = false /\ (nx + 2 == nx) = false /\ (nx + 3 == nx) = false /\ (nx + 1 == nx + 2) = false /\ (nx + 2 == nx + 1) = false /\ (nx + 1 == nx + 3) = false /\ (nx + 3 == nx + 1) = false /\ (nx + 2 == nx + 3) = false /\ (nx + 3 == nx + 2) = false /\
  (2 == nx) = false /\ (nx == 2) = false /\ (1 == nx) = false /\ (nx == 1) = false /\ (0 == nx) = false /\ (nx == 0) = false := by
 have key : ∀ a b : Nat, ¬ a = b -> (a == b) = false := fun a b h => by simpa using h
 exact ⟨key _ _ (by omega), key _ _ (by omega), key _ _ (by omega), key _ _ (by omega), key _ _ (by omega), key _ _ (by omega), key _ _ (by omega), key _ _ (by omega), key _ _ (by omega), key _ _ (by omega), key _ _ (by omega), key _ _ (by omega), key _ _ (by omega), key _ _ (by omega), key _ _ (by omega), key _ _ (by omega), key _ _ (by omega), key _ _ (by omega)⟩
end Go.Proofs.YtmnabhhdiinfaaaGreatDoor.Abs
namespace Go.Proofs.YtmnabhhdiinfaaaGreatDoor.Abs
open Go.RowKit
variable {P : Program}
theorem z4h {k nx : Nat} (h : k < nx) : (nx == nx + 1) = false /\ (nx == nx + 2) = false /\ (nx == nx + 3) = false /\ (nx + 1 == nx) = false /\ (nx + 2 == nx) = false /\ (nx + 3 == nx) = false /\ (nx + 1 == nx + 2) = false /\ (nx + 2 == nx + 1) = false /\ (nx + 1 == nx + 3) = false /\ (nx + 3 == nx + 1) = false /\ (nx + 2 == nx + 3) = false /\ (nx + 3 == nx + 2) = false /\
  (k == nx) = false /\ (nx == k) = false /\ (k == nx + 1) = false /\ (nx + 1 == k) = false /\ (k == nx + 2) = false /\ (nx + 2 == k) = false /\ (k == nx + 3) = false /\ (nx + 3 == k) = false := by
 have key : ∀ a b : Nat, ¬ a = b -> (a == b) = false := fun a b h => by simpa using h
 exact ⟨key _ _ (by omega), key _ _ (by omega), key _ _ (by omega), key _ _ (by omega), key _ _ (by omega), key _ _ (by omega), key _ _ (by omega), key _ _ (by omega), key _ _ (by omega), key _ _ (by omega), key _ _ (by omega), key _ _ (by omega), key _ _ (by omega), key _ _ (by omega), key _ _ (by omega), key _ _ (by omega), key _ _ (by omega), key _ _ (by omega), key _ _ (by omega), key _ _ (by omega)⟩
end Go.Proofs.YtmnabhhdiinfaaaGreatDoor.Abs
namespace Go.Proofs.YtmnabhhdiinfaaaGreatDoor.Abs
open Go.RowKit
variable {P : Program}
def Sem (P : Program) (N : Nat) (c : Code) (Q : Exit -> St -> Prop) (st : St) : Prop :=
 ∀ s0 w0 s a w, Fr P N st s a w -> Step s0 w0 s w -> c.wp P (zsd P N s0 w0 Q) a w
theorem Sem.walk {N : Nat} {own : List Nat} {c : Code} {Q : Exit -> St -> Prop} {st : St} (hm : P.follows .mixedOrders = true) (hok : z8f N c = true) (h : awp P own c Q st) : Sem P N c Q st :=
 fun _ _ s a w hf hs => z69 hm c Q st s a w hok h hf hs
theorem Sem.seq {N : Nat} {x y : Code} {Q : Exit -> St -> Prop} {st : St} (h : Sem P N x (zu7 (fun st => Sem P N y Q st) Q) st) : Sem P N (.seq x y) Q st := by
 intro s0 w0 s a w hf hs
 refine wp_seq (wp_mono (h s0 w0 s a w hf hs) ?_)
 rintro e a' w' ⟨st', s', hq, hf', hs'⟩
 cases e with
 | normal => exact hq s0 w0 s' a' w' hf' hs'
 | exit id => exact ⟨st', s', hq, hf', hs'⟩
 | goto l => exact ⟨st', s', hq, hf', hs'⟩
 | ret => exact ⟨st', s', hq, hf', hs'⟩
 | panic ch => exact ⟨st', s', hq, hf', hs'⟩
 | outgrown => exact ⟨st', s', hq, hf', hs'⟩
theorem Sem.cond {N : Nat} {c : Operand} {x y : Code} {Q : Exit -> St -> Prop} {st : St} (t : Bool) (ht : st.ev c = .bool t) (h1 : t = true -> Sem P N x Q st) (h2 : t = false -> Sem P N y Q st) : Sem P N (.cond c x y) Q st := by
 intro s0 w0 s a w hf hs
 have hv := hf.ev c
 rw [ht] at hv
 simp only [rel] at hv
 exact wp_cond_split hv (fun e => h1 e s0 w0 s a w hf hs) (fun e => h2 e s0 w0 s a w hf hs)
theorem Sem.seal {N : Nat} {c : Code} {Q : Exit -> St -> Prop} {st : St} (st' : St) (hs : SealTo P st st') (h : Sem P N c Q st') : Sem P N c Q st := by
 intro s0 w0 s a w hf hs0
 obtain ⟨s', hf', hs'⟩ := hs N s a w hf
 exact h s0 w0 s' a w hf' (hs0.trans hs')
theorem zak {f : FuncId} {fn : Func} {c : Code} (hf : P.funcs[f]? = some fn) (hb : fn.body = some c) (hname : (fn.name == "runtime.NumGoroutine") = false)
  {ds : List D} {H : HM} {nx : Nat} {K : D -> HM -> Nat -> Prop} (hds : ds.length <= fn.ntmps) (h : Sem P fn.ntmps c (retQ P fn.results.toList K) (st0 ds H nx)) : AC P f ds H nx K := by
 refine ⟨⟨fn, hf, hname, by rw [hb]; rfl⟩, fun s w vs hH hnx hRH hr => ?_⟩
 have hlen := z0e hr
 refine calls_of_wp hf hb ?_
 have hfr : Fr P fn.ntmps (st0 ds H nx) s { tmps := vs.toArray ++ Array.replicate (fn.ntmps - vs.toArray.size) undef, defers := [] } w := by
  refine ⟨hH, hnx, by simp; omega, rfl, fun i => ?_, hRH⟩
  simp only [st0]
  cases hd : ds[i]? with
  | none => simp [rel]
  | some d =>
   obtain ⟨v, hv, hrel⟩ := z2t hr i d hd
   have hi : i < vs.length := by
    rcases Nat.lt_or_ge i vs.length with h | h
    ·exact h
    ·rw [List.getElem?_eq_none h] at hv; cases hv
   simp only [Array.getD_eq_getD_getElem?, Option.getD_some]
   rw [Array.getElem?_append_left (by simpa using hi)]
   simp only [List.getElem?_toArray, hv, Option.getD_some]
   exact hrel
 refine wp_mono (h s w s _ w hfr (Step.refl s w)) ?_
 rintro e a' w' ⟨st', s', hq, hf', hs'⟩
 cases e with
 | normal =>
  obtain ⟨r, hr, J⟩ := hq
  obtain ⟨v, h1, h2⟩ := z6t hf' hr
  exact ⟨hf'.defers, v, h1, v, r, s', rfl, by rw [hf'.H, hf'.nx]; exact J, hs', hf'.heap, h2⟩
 | ret =>
  obtain ⟨r, hr, J⟩ := hq
  obtain ⟨v, h1, h2⟩ := z6t hf' hr
  exact ⟨hf'.defers, v, h1, v, r, s', rfl, by rw [hf'.H, hf'.nx]; exact J, hs', hf'.heap, h2⟩
 | exit id => exact hq.elim
 | goto l => exact hq.elim
 | panic ch => exact hq.elim
 | outgrown => exact hq.elim
section
variable {st : St} {dst : Option Nat} {n : FuncId} {cap args : List D} {g : List Oper -> (St -> Prop) -> St -> Prop} {rest : List Oper} {K : St -> Prop}
end
end Go.Proofs.YtmnabhhdiinfaaaGreatDoor.Abs
namespace Go.Proofs.YtmnabhhdiinfaaaGreatDoor.Abs
open Go.RowKit
variable {P : Program}
end Go.Proofs.YtmnabhhdiinfaaaGreatDoor.Abs
namespace Go.Proofs.YtmnabhhdiinfaaaGreatDoor
open _root_.Go.Proofs.Tryz
section
open Abs Facts Tr
attribute [local irreducible] awp
namespace Tr
def bl (s : ByteArray) : List UInt8 := s.data.toList
theorem z23 (s : ByteArray) : (bl s).length = s.size := rfl
def dig (b : UInt8) : Bool := decide (48 <= b.toNat /\ b.toNat <= 57)
def cap (b : UInt8) : Bool := decide (65 <= b.toNat /\ b.toNat <= 90)
def ink (b : UInt8) : Bool := decide (33 <= b.toNat /\ b.toNat <= 126)
def za4 (s : ByteArray) : Nat := ((bl s).takeWhile dig).length
def z4f (s : ByteArray) : Bool := decide (1 <= za4 s /\ za4 s <= 4 /\ ((bl s).headD 0).toNat ≠ 48 /\ s.size - za4 s <= 3) && ((bl s).drop (za4 s)).all cap
def z6e (s : ByteArray) : Bool := decide (1 <= s.size /\ s.size <= 24) && (bl s).all ink
def zx9 (l : List ByteArray) : Bool := decide (l.length <= 256) && l.all z6e
def zij (l : List Wd) : Bool := decide (l.length <= 256) && l.all fun w => z6e w.text
theorem zjy (l : List Wd) : zij l = (decide (l.length <= 256) && zx9 (l.map (·.text))) := by
 unfold zij zx9
 rw [List.length_map, List.all_map]
 cases decide (l.length <= 256) <;> simp [Function.comp_def]
theorem z6w {α : Type} {p : α -> Bool} : ∀ {l : List α} {k : Nat} (_ : k <= l.length), (∀ j, (hj : j < k) -> p (l[j]'(by omega)) = true) -> (∀ h : k < l.length, p l[k] = false) -> (l.takeWhile p).length = k
 | [], k, hk, _, _ => by simp at hk; simp [hk]
 | x :: l, 0, _, _, h2 => by
  have := h2 (by simp)
  simp only [List.getElem_cons_zero] at this
  simp [this]
 | x :: l, k + 1, hk, h1, h2 => by
  have h0 := h1 0 (by omega)
  simp only [List.getElem_cons_zero] at h0
  rw [List.takeWhile_cons, if_pos h0, List.length_cons]
  have := z6w (p := p) (l := l) (k := k) (by simpa using hk) (fun j hj => by simpa using h1 (j + 1) (by omega)) (fun h => h2 (by simpa using h))
  rw [this]
theorem zdv (s : ByteArray) : za4 s <= s.size := by
 unfold za4
 rw [<- z23]
 exact (List.takeWhile_prefix _).length_le
end Tr
theorem bget {s : ByteArray} {i : Nat} (h : i < s.size) : s[i]? = some ((bl s)[i]'h) := getElem?_pos s i h
theorem bhead {s : ByteArray} (h : 0 < s.size) : (bl s)[0]'h = (bl s).headD 0 := by
 have : ∀ (l : List UInt8) (h : 0 < l.length), l[0]'h = l.headD 0 := fun l h => by cases l with
  | nil => exact absurd h (by simp)
  | cons a l => rfl
 exact this _ _
theorem zxa (s : ByteArray) (hs : s.size <= maxLen) : PC prog 186 [.str s] (.int .i64 (za4 s)) := by
 unfold maxLen at hs
 refine z1g 1 (by simp only [pureD.pureL, pureD, Bool.and_self]) rfl (z14 [] func186 rfl (by decide +kernel) rfl ?_)
 show awp _ _ (Code.seq _ _) _ _
 repeat' (first | ((refine zqh fun K J => ?_); (simp (disch := omega) only [go_sem])) | refine zqa ?_ | (refine J _ ?_; clear J K))
 have hbl := z23 s
 (refine z4m (fun U st => ∃ (k : _), U = s.size - k /\ st.t 0 = .str s /\ st.t 3 = .int .i64 k /\ (k <= s.size) /\ (∀ j, (hj : j < k) -> (h : j < (bl s).length) -> dig (bl s)[j] = true)) ?_ ?_); rotate_left; (rintro U st ⟨k, rfl, s0, s3, sp0, sp1⟩); rotate_left
 ·(refine ⟨_, 0, rfl, ?_⟩); (simp (disch := omega) only [go_sem, Nat.reduceBEq, true_and, Int.natCast_zero])
  exact fun j hj => by omega
 repeat' (first | refine zqj ?_ | ((first | refine zqh fun K J => ?_ | refine zqr fun K J => ?_); (simp (disch := omega) only [go_sem, Nat.reduceBEq, ↓reduceIte, s0, s3])) | ((refine zqd _ rfl (fun hc => ?_) (fun hc => ?_)) <;> (first | (cases hc; done) | ((try simp only [z0b] at hc); (try omega)))) | refine zqi ?_ | refine zqb ?_ | refine zqc ?_ | refine zqn ?_ | refine zqv ?_ | refine zqy ?_ | refine zqz ?_ | refine zqp ?_ | refine zqu (by simp only [go_sem]; rfl) rfl ?_ | (refine J _ ?_; clear J K) | (refine zqf (fun hb => ?_) (fun hb => ?_) <;> (have hb2 := hb; try simp only [z0b] at hb2) <;> ((first | have hb3 := eq_false hb2 | have hb3 := eq_true hb2); (simp (disch := omega) only [go_sem, Nat.reduceBEq, ↓reduceIte, hb3, s0, s3, bget]); clear hb hb3; (try omega))))
 ·(refine Exists.intro _ (And.intro ?_ ⟨k + 1, rfl, ?_⟩)); rotate_left; (simp (disch := omega) only [go_sem, Nat.reduceBEq, s0, s3, true_and, Int.natCast_add, Int.natCast_one]); rotate_left
  ·omega
  ·refine ⟨by omega, fun j hj h => ?_⟩
   by_cases e : j = k
   ·subst e; unfold dig; exact decide_eq_true (by omega)
   ·exact sp1 j (by omega) h
 all_goals
  refine z1e ?_
  have := z6w (p := dig) (l := bl s) (k := k) (by omega) (fun j hj => sp1 j hj (by omega)) (fun h => by
   unfold dig; exact decide_eq_false (by omega))
  unfold za4; rw [this]
theorem zxb (s : ByteArray) (hs : s.size <= maxLen) : PC prog 164 [.str s] (.bool (z6e s)) := by
 unfold maxLen at hs
 refine z1g 1 (by simp only [pureD.pureL, pureD, Bool.and_self]) rfl (z14 [] func164 rfl (by decide +kernel) rfl ?_)
 show awp _ _ (Code.seq _ _) _ _
 repeat' (first | refine zqj ?_ | ((refine zqh fun K J => ?_); (simp (disch := omega) only [go_sem, Nat.reduceBEq, ↓reduceIte])) | ((refine zqd _ rfl (fun hc => ?_) (fun hc => ?_)) <;> (first | (cases hc; done) | ((try simp only [z0b] at hc); (try omega)))) | refine zqa ?_ | refine zqb ?_ | refine zqg ?_ | refine zqu (by simp only [go_sem]; rfl) rfl ?_ | (refine J _ ?_; clear J K) | (refine zqf (fun hb => ?_) (fun hb => ?_) <;> (have hb2 := hb; try simp only [z0b] at hb2) <;> ((first | have hb3 := eq_false hb2 | have hb3 := eq_true hb2); (simp (disch := omega) only [go_sem, Nat.reduceBEq, ↓reduceIte, hb3]); clear hb hb3; (try omega))))
 ·exact z03 (by unfold z6e; rw [decide_eq_false (by omega)]; rfl)
 ·rw [show z6e s = (bl s).all ink from by unfold z6e; rw [decide_eq_true (by omega)]; rfl]
  (refine z4m (fun U st => ∃ (k : _), U = s.size - k /\ st.t 0 = .str s /\ st.t 3 = .int .i64 k /\ (k <= s.size) /\ (((bl s).take k).all ink = true)) ?_ ?_); rotate_left; (rintro U st ⟨k, rfl, s0, s3, sp0, sp1⟩); rotate_left
  ·(refine ⟨_, 0, rfl, ?_⟩); (simp (disch := omega) only [go_sem, Nat.reduceBEq, true_and, Int.natCast_zero])
   simp
  have hbl := z23 s
  repeat' (first | refine zqj ?_ | ((first | refine zqh fun K J => ?_ | refine zqr fun K J => ?_); (simp (disch := omega) only [go_sem, Nat.reduceBEq, ↓reduceIte, s0, s3, bget])) | ((first | refine zqd _ rfl (fun hc => ?_) (fun hc => ?_) | refine zqm _ rfl (fun hc => ?_) (fun hc => ?_)) <;> (first | (cases hc; done) | ((try simp only [z0b] at hc); (try omega)))) | refine zqa ?_ | refine zqb ?_ | refine zqc ?_ | refine zqk ?_ | refine zqn ?_ | refine zqv ?_ | refine zqx ?_ | refine zqy ?_ | refine zqz ?_ | refine z6q ?_ | refine zqp ?_ | refine zqo ?_ | refine zqu (by simp only [go_sem]; rfl) rfl ?_ | (refine J _ ?_; clear J K) | (refine zqf (fun hb => ?_) (fun hb => ?_) <;> (have hb2 := hb; try simp only [z0b] at hb2) <;> ((first | have hb3 := eq_false hb2 | have hb3 := eq_true hb2); (simp (disch := omega) only [go_sem, Nat.reduceBEq, ↓reduceIte, hb3, s0, s3, bget]); clear hb hb3; (try omega))))
  ·exact z03 (zaa (k := k) (by omega) (by unfold ink; exact decide_eq_false (by omega))).symm
  ·(refine Exists.intro _ (And.intro ?_ ⟨k + 1, rfl, ?_⟩)); rotate_left; (simp (disch := omega) only [go_sem, Nat.reduceBEq, s0, s3, true_and, Int.natCast_add, Int.natCast_one]); rotate_left
   ·omega
   ·exact ⟨by omega, z6y (by omega) sp1 (by unfold ink; exact decide_eq_true (by omega))⟩
  ·exact z03 (zaa (k := k) (by omega) (by unfold ink; exact decide_eq_false (by omega))).symm
  ·exact z03 (z6z (by omega) sp1).symm
 ·exact z03 (by unfold z6e; rw [decide_eq_false (by omega)]; rfl)
theorem pc_Seq (l : List ByteArray) (hl : l.length <= maxLen) (hs : ∀ s ∈ l, s.size <= maxLen) : PC prog 194 [zz2 l] (.bool (zx9 l)) := by
 unfold maxLen at hl
 refine z1g 1 (by simp only [pureD.pureL, zlx, Bool.and_self]) rfl (z14 [] func194 rfl (by decide +kernel) rfl ?_)
 show awp _ _ (Code.seq _ _) _ _
 have hw := fun (i : Nat) (h : i < l.length) => zxb l[i] (hs _ (List.getElem_mem h))
 repeat' (first | refine zqj ?_ | ((refine zqh fun K J => ?_); (simp (disch := omega) only [go_sem, Nat.reduceBEq, ↓reduceIte, zz2])) | ((refine zqd _ rfl (fun hc => ?_) (fun hc => ?_)) <;> (((try simp only [z0b] at hc); (try omega)))) | refine zqa ?_ | refine zqb ?_ | refine zqg ?_ | refine zqu (by simp only [go_sem]; rfl) rfl ?_ | (refine J _ ?_; clear J K))
 ·exact z03 (by unfold zx9; rw [decide_eq_false (by omega)]; rfl)
 ·rw [show zx9 l = l.all z6e from by unfold zx9; rw [decide_eq_true (by omega)]; rfl]
  (refine z4m (fun U st => ∃ (k : _), U = l.length - k /\ st.t 0 = zz2 l /\ st.t 3 = .int .i64 k /\ (k <= l.length) /\ ((l.take k).all z6e = true)) ?_ ?_); rotate_left; (rintro U st ⟨k, rfl, s0, s3, sp0, sp1⟩); rotate_left
  ·(refine ⟨_, 0, rfl, ?_⟩); (simp (disch := omega) only [go_sem, Nat.reduceBEq, true_and, Int.natCast_zero, zz2])
   simp
  repeat' (first | refine zqj ?_ | ((first | refine zqh fun K J => ?_ | refine zqr fun K J => ?_ | refine zqs (hw k (by omega)) ?_); (simp (disch := omega) only [go_sem, Nat.reduceBEq, ↓reduceIte, reduceCtorEq, Nat.reduceAdd, s0, s3, zz2])) | ((first | refine zqd _ rfl (fun hc => ?_) (fun hc => ?_) | refine zqm _ rfl (fun hc => ?_) (fun hc => ?_)) <;> (((try simp only [z0b] at hc); (try omega)))) | refine zqa ?_ | refine zqb ?_ | refine zqc ?_ | refine zqk ?_ | refine zqn ?_ | refine zqv ?_ | refine zqx ?_ | refine zqy ?_ | refine zqz ?_ | refine z6q ?_ | refine zqp ?_ | refine zqo ?_ | refine zqu (by simp only [go_sem]; rfl) rfl ?_ | (refine J _ ?_; clear J K))
  ·exact z03 (zaa (k := k) (by omega) (by assumption)).symm
  ·(refine Exists.intro _ (And.intro ?_ ⟨k + 1, rfl, ?_⟩)); rotate_left; (simp (disch := omega) only [go_sem, Nat.reduceBEq, s0, s3, true_and, Int.natCast_add, Int.natCast_one]); rotate_left
   ·omega
   ·exact ⟨by omega, z6y (by omega) sp1 (by assumption)⟩
  ·exact z03 (z6z (by omega) sp1).symm
theorem pc_Texts (l : List Wd) (hl : l.length <= 1000000) : PC prog 195 [z0r l] (zz2 (l.map (·.text))) := by
 refine z1g 2 (by simp only [pureD.pureL, z0d, Bool.and_self]) (zlx _) (z14 [5] func195 rfl (by decide +kernel) rfl ?_)
 show awp _ _ (Code.seq _ _) _ _
 repeat' (first | refine zqj ?_ | ((refine zqh fun K J => ?_); (simp (disch := omega) only [go_sem, Nat.reduceBEq, ↓reduceIte, reduceCtorEq, z0r])) | refine zqa ?_ | (refine J _ ?_; clear J K))
 (refine z4m (fun U st => ∃ (k : _), U = l.length - k /\ st.t 0 = z0r l /\ st.t 3 = .osl 0 k /\ st.t 4 = .int .i64 k /\ st.H 0 = some (.row 9 k (((l.take k).map (·.text)).map .str)) /\ (k <= l.length)) ?_ ?_); rotate_left; (rintro U st ⟨k, rfl, s0, s3, s4, sH0, sp0⟩); rotate_left
 ·(refine ⟨_, 0, rfl, ?_⟩); (simp (disch := omega) only [go_sem, Nat.reduceBEq, and_self, Int.natCast_zero, List.map_nil, z0r])
  try simp
 have htk : ∀ h : k < l.length, l.take (k + 1) = l.take k ++ [l[k]] := fun h => List.take_succ_eq_append_getElem h
 repeat' (first | refine zqj ?_ | ((first | refine zqh fun K J => ?_ | refine zqr fun K J => ?_); (simp (disch := omega) only [go_sem, Nat.reduceBEq, ↓reduceIte, reduceCtorEq, Nat.reduceAdd, Nat.reduceLeDiff, Nat.reduceLT, s0, s3, s4, sH0, z0r])) | ((refine zqd _ rfl (fun hc => ?_) (fun hc => ?_)) <;> (((try simp only [z0b] at hc); (try omega)))) | refine zqa ?_ | refine zqb ?_ | refine zqc ?_ | refine zqn ?_ | refine zqv ?_ | refine zqy ?_ | refine zqz ?_ | refine zqp ?_ | refine zqu (by simp only [go_sem]; rfl) rfl ?_ | (refine J _ ?_; clear J K))
 ·have htk := htk (by omega)
  (refine Exists.intro _ (And.intro ?_ ⟨k + 1, rfl, ?_⟩)); rotate_left; (simp (disch := omega) only [go_sem, Nat.reduceBEq, s0, s3, s4, sH0, true_and, Int.natCast_add, Int.natCast_one, List.map_append, List.map_cons, List.map_nil, htk]); rotate_left
  ·omega
  ·omega
 ·have hk : k = l.length := by omega
  subst hk
  rw [List.take_length] at sH0
  have h2 : l.length = ((l.map (·.text))).length := by simp
  rw [h2] at sH0 ⊢
  exact z50 (zlv 0 sH0 z98 zik (by simp) (zjg _))
theorem zxc (l : List Wd) (hl : l.length <= 1000000) (hs : ∀ w ∈ l, w.text.size <= maxLen) : PC prog 181 [z0r l] (.bool (zij l)) := by
 refine z1g 1 (by simp only [pureD.pureL, z0d, Bool.and_self]) rfl (z14 [] func181 rfl (by decide +kernel) rfl ?_)
 show awp _ _ (Code.seq _ _) _ _
 have h1 := pc_Texts l hl
 have h2 := pc_Seq (l.map (·.text)) (by unfold maxLen; simp; omega) (fun s hs' => by obtain ⟨w, hw, rfl⟩ := List.mem_map.1 hs'; exact hs w hw)
 rw [zjy]
 simp only [zz2, List.map_map] at h1 h2
 repeat' (first | ((first | refine zqh fun K J => ?_ | refine zqs (h1) ?_ | refine zqs (h2) ?_); (simp (disch := omega) only [go_sem, Nat.reduceBEq, ↓reduceIte, z0r])) | refine zqn ?_ | refine zqu (by simp only [go_sem]; rfl) rfl ?_ | (refine J _ ?_; clear J K) | (refine zqf (fun hb => ?_) (fun hb => ?_) <;> (have hb2 := hb; try simp only [z0b] at hb2) <;> ((first | have hb3 := eq_false hb2 | have hb3 := eq_true hb2); (simp (disch := omega) only [go_sem, Nat.reduceBEq, ↓reduceIte, hb3]); clear hb hb3; (try omega))))
 ·exact z03 (by rw [decide_eq_true (by omega)]; rfl)
 ·exact z03 (by rw [decide_eq_false (by omega)]; rfl)
theorem zqw (s : ByteArray) (hs : s.size <= maxLen) : PC prog 161 [.str s] (.bool (z4f s)) := by
 unfold maxLen at hs
 refine z1g 1 (by simp only [pureD.pureL, pureD, Bool.and_self]) rfl (z14 [] func161 rfl (by decide +kernel) rfl ?_)
 show awp _ _ (Code.seq _ _) _ _
 have h1 := zxa s hs
 have hn := zdv s
 have hbl := z23 s
 have hz : Int.toNat 0 = 0 := rfl
 have hne : ∀ h : 0 < s.size, (bl s)[0].toNat = ((bl s).headD 0).toNat := fun h => congrArg UInt8.toNat (bhead h)
 repeat' (first | refine zqj ?_ | ((first | refine zqh fun K J => ?_ | refine zqs (h1) ?_); (simp (disch := omega) only [go_sem, Nat.reduceBEq, ↓reduceIte])) | ((refine zqd _ rfl (fun hc => ?_) (fun hc => ?_)) <;> (first | (cases hc; done) | ((try simp only [z0b] at hc); (try omega)))) | refine zqa ?_ | refine zqb ?_ | refine zqg ?_ | refine zqu (by simp only [go_sem]; rfl) rfl ?_ | (refine J _ ?_; clear J K) | (refine zqf (fun hb => ?_) (fun hb => ?_) <;> (have hb2 := hb; try simp only [z0b] at hb2) <;> ((first | have hb3 := eq_false hb2 | have hb3 := eq_true hb2); (simp (disch := omega) only [go_sem, Nat.reduceBEq, ↓reduceIte, Int.reduceLE, hb3, bget, hz]); clear hb hb3; (try omega))))
 ·exact z03 (by unfold z4f; rw [decide_eq_false (by omega)]; rfl)
 ·have hf := hne (by omega)
  rw [show z4f s = ((bl s).drop (za4 s)).all cap from by unfold z4f; rw [decide_eq_true (by omega)]; rfl]
  (refine z4m (fun U st => ∃ (k : _), U = s.size - k /\ st.t 0 = .str s /\ st.t 4 = .int .i64 k /\ (za4 s <= k) /\ (k <= s.size) /\ ((((bl s).drop (za4 s)).take (k - za4 s)).all cap = true)) ?_ ?_); rotate_left; (rintro U st ⟨k, rfl, s0, s4, sp0, sp1, sp2⟩); rotate_left
  ·(refine ⟨_, za4 s, rfl, ?_⟩); (simp (disch := omega) only [go_sem, Nat.reduceBEq, true_and])
   exact ⟨Nat.le_refl _, by omega, by rw [Nat.sub_self]; rfl⟩
  have hk : ∀ h : k < s.size, ((bl s).drop (za4 s))[k - za4 s]'(by rw [List.length_drop, z23]; omega) = (bl s)[k]'h := fun h => by
   rw [List.getElem_drop]; congr 1; omega
  have hl : ((bl s).drop (za4 s)).length = s.size - za4 s := by rw [List.length_drop, z23]
  repeat' (first | refine zqj ?_ | ((first | refine zqh fun K J => ?_ | refine zqr fun K J => ?_); (simp (disch := omega) only [go_sem, Nat.reduceBEq, ↓reduceIte, s0, s4, bget])) | ((first | refine zqd _ rfl (fun hc => ?_) (fun hc => ?_) | refine zqm _ rfl (fun hc => ?_) (fun hc => ?_)) <;> (first | (cases hc; done) | ((try simp only [z0b] at hc); (try omega)))) | refine zqa ?_ | refine zqb ?_ | refine zqc ?_ | refine zqk ?_ | refine zqn ?_ | refine zqv ?_ | refine zqx ?_ | refine zqy ?_ | refine zqz ?_ | refine z6q ?_ | refine zqp ?_ | refine zqo ?_ | refine zqu (by simp only [go_sem]; rfl) rfl ?_ | (refine J _ ?_; clear J K) | (refine zqf (fun hb => ?_) (fun hb => ?_) <;> (have hb2 := hb; try simp only [z0b] at hb2) <;> ((first | have hb3 := eq_false hb2 | have hb3 := eq_true hb2); (simp (disch := omega) only [go_sem, Nat.reduceBEq, ↓reduceIte, hb3, s0, s4, bget]); clear hb hb3; (try omega))))
  ·exact z03 (zaa (k := k - za4 s) (by omega) (by rw [hk (by omega)]; unfold cap; exact decide_eq_false (by omega))).symm
  ·(refine Exists.intro _ (And.intro ?_ ⟨k + 1, rfl, ?_⟩)); rotate_left; (simp (disch := omega) only [go_sem, Nat.reduceBEq, s0, s4, true_and, Int.natCast_add, Int.natCast_one]); rotate_left
   ·omega
   ·refine ⟨by omega, by omega, ?_⟩
    rw [show k + 1 - za4 s = k - za4 s + 1 from by omega]
    exact z6y (by omega) sp2 (by rw [hk (by omega)]; unfold cap; exact decide_eq_true (by omega))
  ·exact z03 (zaa (k := k - za4 s) (by omega) (by rw [hk (by omega)]; unfold cap; exact decide_eq_false (by omega))).symm
  ·exact z03 (z6z (k := k - za4 s) (by omega) sp2).symm
 ·have hf := hne (by omega)
  exact z03 (by unfold z4f; rw [decide_eq_false (by omega)]; rfl)
 ·exact z03 (by unfold z4f; rw [decide_eq_false (by omega)]; rfl)
 ·exact z03 (by unfold z4f; rw [decide_eq_false (by omega)]; rfl)
end
section
open Abs Facts Tr
attribute [local irreducible] awp
namespace Tr
def z0j (t : T) : List T := zhl (fun t l => t :: l.flatten) t
theorem z1n (t : T) : z0j t = t :: t.kids.flatMap z0j := by
 unfold z0j; rw [z4i, List.flatMap]
theorem z1r (t : T) : t ∈ z0j t := by rw [z1n]; exact List.mem_cons_self
theorem z2g {t k x : T} (hk : k ∈ t.kids) (hx : x ∈ z0j k) : x ∈ z0j t := by
 rw [z1n]; exact List.mem_cons_of_mem _ (List.mem_flatMap.2 ⟨k, hk, hx⟩)
variable {σ : Type}
def zb9 (step : T -> σ -> Bool × σ) : List T -> σ -> Bool × σ
 | [], s => (true, s)
 | x :: l, s => if (step x s).1 = true then zb9 step l (step x s).2 else (false, (step x s).2)
theorem zbh (step : T -> σ -> Bool × σ) : ∀ (a b : List T) (s : σ), zb9 step (a ++ b) s = if (zb9 step a s).1 = true then zb9 step b (zb9 step a s).2 else zb9 step a s
 | [], b, s => by simp [zb9]
 | x :: a, b, s => by
  simp only [List.cons_append, zb9]
  split
  ·exact zbh step a b _
  ·simp
theorem zvz (step : T -> σ -> Bool × σ) {a b : List T} {s : σ} (h : (zb9 step a s).1 = false) : zb9 step (a ++ b) s = zb9 step a s := by
 rw [zbh, h]; simp
theorem zw0 (step : T -> σ -> Bool × σ) (m : σ -> Nat) (hm : ∀ x s, m (step x s).2 <= m s + 1) : ∀ (l : List T) (s : σ), m (zb9 step l s).2 <= m s + l.length
 | [], s => by simp [zb9]
 | x :: l, s => by
  have h1 := hm x s
  simp only [zb9, List.length_cons]
  split
  ·have := zw0 step m hm l (step x s).2
   omega
  ·simp only; omega
theorem runS_kid (step : T -> σ -> Bool × σ) {f : T -> List T} {l : List T} {i : Nat} {s s2 : σ} (h : i < l.length) (hq : zb9 step ((l.take i).flatMap f) s = (true, s2)) :
  zb9 step ((l.take (i + 1)).flatMap f) s = zb9 step (f l[i]) s2 := by
 rw [List.take_succ_eq_append_getElem h, List.flatMap_append, zbh, hq]
 simp
theorem zw1 (step : T -> σ -> Bool × σ) {f : T -> List T} {l : List T} {i : Nat} {s s2 : σ} (hq : zb9 step ((l.take i).flatMap f) s = (false, s2)) : zb9 step (l.flatMap f) s = (false, s2) := by
 have : l.flatMap f = (l.take i).flatMap f ++ (l.drop i).flatMap f := by rw [<- List.flatMap_append, List.take_append_drop]
 rw [this, zvz _ (by rw [hq]), hq]
end Tr
theorem zg4 {σ : Type} {g : FuncId} {cap : List D} {lo : Nat} {I : σ -> HM -> Prop} (step : T -> σ -> Bool × σ) (hI : Low lo I) (m : σ -> Nat) (M : Nat) (hm : ∀ x s, m (step x s).2 <= m s + 1) :
  ∀ u : T, fitB u = true -> (∀ x ∈ z0j u, ∀ s, m s < M -> Eff prog g (z0m x :: cap) lo I s (step x s).2 (.bool (step x s).1)) ->
  ∀ s, m s + (z0j u).length <= M -> Eff prog 166 [z0m u, .fn g cap] lo I s (zb9 step (z0j u) s).2 (.bool (zb9 step (z0j u) s).1) := by
 refine z5c fun u ih hfit hv s hM => ?_
 obtain ⟨h1, h2, h3, h4⟩ := (zbj u).1 hfit
 have ih := fun k hk => ih k hk (h4 k hk) (fun x hx => hv x (z2g hk hx))
 have hlen : (z0j u).length = 1 + (u.kids.flatMap z0j).length := by rw [z1n, List.length_cons, Nat.add_comm]
 have hv := hv u (z1r u) s (by omega)
 have hm1 := hm u s
 unfold maxLen at h3
 have hrun : zb9 step (z0j u) s = if (step u s).1 = true then zb9 step (u.kids.flatMap z0j) (step u s).2 else (false, (step u s).2) := by rw [z1n]; rfl
 rw [hrun]; clear hrun
 generalize step u s = p1 at hv hm1 ⊢
 obtain ⟨b1, s1⟩ := p1
 simp only at hv hm1 ⊢
 refine zg7 hI rfl fun H nx hlo hs => ?_
 refine (z14 [] func166 rfl (by decide +kernel) rfl ?_)
 show awp _ _ (Code.seq _ _) _ _
 repeat' (first | refine zqj ?_ | ((refine zqh fun K J => ?_); (simp (disch := omega) only [go_sem, Nat.reduceBEq, ↓reduceIte, Nat.reduceAdd, Nat.reduceLeDiff])) | (refine J _ ?_; clear J K))
 refine zci hv (by show lo <= nx + 1; omega) (hI.loc s H _ (fun id hid => z82 (by omega)) hs) fun H1 hs1 hH1 => ?_
 have hb1 : H1 nx = some (.box 27 (z0h u)) := (hH1 nx hlo).trans z2u
 have hk1 : ∀ id, lo <= id -> id < nx -> H1 id = H id := fun id h1 h2 => (hH1 id h1).trans (z82 (by omega))
 clear hH1
 (try (simp (disch := omega) only [go_sem, Nat.reduceBEq])); repeat' (first | refine zqj ?_ | ((refine zqh fun K J => ?_); (simp (disch := omega) only [go_sem, Nat.reduceBEq, ↓reduceIte, reduceCtorEq, Nat.reduceAdd, hb1])) | ((refine zqd _ rfl (fun hc => ?_) (fun hc => ?_)) <;> (((try simp only [z0b] at hc); (try omega)))) | refine zqa ?_ | refine zqb ?_ | refine zqg ?_ | refine zqu (by simp only [go_sem]; rfl) rfl ?_ | (refine J _ ?_; clear J K))
 ·subst hc
  (simp (disch := omega) only [go_sem, Nat.reduceBEq, ↓reduceIte])
  exact ⟨hs1, hk1⟩
 ·subst hc
  simp only [if_true]
  (refine z4m (fun U st => ∃ (i : _) (si : _), U = u.kids.length - i /\ st.t 1 = .fn g cap /\ st.t 12 = z13 u.kids /\ st.t 13 = .int .i64 u.kids.length /\ st.t 14 = .int .i64 i /\ (i <= u.kids.length) /\ (nx < st.nx) /\ (I si st.H) /\ (zb9 step ((u.kids.take i).flatMap z0j) s1 = (true, si)) /\ (∀ id, lo <= id -> id < nx -> st.H id = H id)) ?_ ?_); rotate_left; (rintro U st ⟨i, si, rfl, q1, q12, q13, q14, qp0, qp1, qp2, qp3, qp4⟩); rotate_left
  ·(refine ⟨_, 0, s1, rfl, ?_⟩); (simp (disch := omega) only [go_sem, Nat.reduceBEq, true_and, Int.natCast_zero, List.flatMap_nil, z13])
   exact ⟨by omega, hs1, rfl, hk1⟩
  have ih := fun (h : i < u.kids.length) => ih u.kids[i] (List.getElem_mem h) si
  repeat' (first | ((refine zqh fun K J => ?_); (simp (disch := omega) only [go_sem, Nat.reduceBEq, ↓reduceIte, reduceCtorEq, Nat.reduceAdd, Nat.reduceLeDiff, q1, q12, q13, q14, z13])) | ((refine zqd _ rfl (fun hc => ?_) (fun hc => ?_)) <;> (((try simp only [z0b] at hc); (try omega)))) | refine zqa ?_ | refine zqb ?_ | refine zqc ?_ | refine zqn ?_ | refine zqv ?_ | refine zqz ?_ | refine zqp ?_ | refine zqu (by simp only [go_sem]; rfl) rfl ?_ | (refine J _ ?_; clear J K))
  ·have hi : i < u.kids.length := by omega
   obtain ⟨b2, s2, e2⟩ : ∃ b2 s2, zb9 step (z0j u.kids[i]) si = (b2, s2) := ⟨_, _, rfl⟩
   have ih := ih hi (by
    have h1 := zw0 step m hm ((u.kids.take i).flatMap z0j) s1
    rw [qp3] at h1
    have h2 : (u.kids.flatMap z0j).length = ((u.kids.take i).flatMap z0j).length + ((z0j u.kids[i]).length + ((u.kids.drop (i + 1)).flatMap z0j).length) := by
     rw [<- List.length_append, <- List.flatMap_cons, List.getElem_cons_drop, <- List.length_append, <- List.flatMap_append, List.take_append_drop]
    simp only at h1
    omega)
   rw [e2] at ih
   have hrun := (runS_kid step hi qp3).trans e2
   refine zci ih (by show lo <= st.nx + 1; omega) (hI.loc si st.H _ (fun id hid => (z82 (by omega)).trans (z82 (by omega))) qp2) fun H2 hs2 hH2 => ?_
   have hk2 : ∀ id, lo <= id -> id < nx -> H2 id = H id := fun id h1 h2 => ((hH2 id h1).trans ((z82 (by omega)).trans (z82 (by omega)))).trans (qp4 id h1 h2)
   clear hH2
   (try (simp (disch := omega) only [go_sem, Nat.reduceBEq])); repeat' (first | ((first | refine zqh fun K J => ?_ | refine zqr fun K J => ?_); (simp (disch := omega) only [go_sem, Nat.reduceBEq, ↓reduceIte, q14])) | ((refine zqm _ rfl (fun hc => ?_) (fun hc => ?_)) <;> (((try simp only [z0b] at hc); (try omega)))) | refine zqk ?_ | refine zqn ?_ | refine zqv ?_ | refine zqx ?_ | refine zqy ?_ | refine z6q ?_ | refine zqo ?_ | refine zqu (by simp only [go_sem]; rfl) rfl ?_ | (refine J _ ?_; clear J K))
   ·subst hc
    (simp (disch := omega) only [go_sem, Nat.reduceBEq])
    rw [zw1 step hrun]
    exact ⟨rfl, hs2, hk2⟩
   ·subst hc
    (refine Exists.intro _ (And.intro ?_ ⟨i + 1, s2, rfl, ?_⟩)); rotate_left; (simp (disch := omega) only [go_sem, Nat.reduceBEq, q1, q12, q13, q14, true_and, Int.natCast_add, Int.natCast_one, hrun]); rotate_left
    ·omega
    ·exact ⟨by omega, hs2, hk2⟩
  ·have : u.kids.take i = u.kids := List.take_of_length_le (by omega)
   rw [this] at qp3
   rw [qp3]
   (simp (disch := omega) only [go_sem, Nat.reduceBEq])
   exact ⟨qp2, qp4⟩
namespace Tr
def cntT (t : T) : Nat := (z0j t).length
def idsT (t : T) : List Idv := (z0j t).map T.id
theorem zpt (f : T -> Bool) : ∀ (l : List T) (s : Unit), zb9 (fun x s => (f x, s)) l s = (l.all f, ())
 | [], _ => rfl
 | x :: l, s => by
  simp only [zb9, List.all_cons]
  cases f x <;> simp [zpt f l]
theorem zpu : ∀ (l : List T) (n : Nat), zb9 (fun _ n => (true, n + 1)) l n = (true, n + l.length)
 | [], _ => rfl
 | x :: l, n => by simp only [zb9, if_true, zpu l, List.length_cons]; congr 1; omega
theorem zpv : ∀ (l : List T) (a : List Idv), zb9 (fun x a => (true, a ++ [x.id])) l a = (true, a ++ l.map T.id)
 | [], a => by simp [zb9]
 | x :: l, a => by simp [zb9, zpv l]
end Tr
theorem low_true (lo : Nat) (hz : lo = 0) : Low lo (fun (_ : Unit) (_ : HM) => True) := ⟨fun _ _ _ _ h => h, fun _ _ _ id o h _ => by omega⟩
theorem pc_every {g : FuncId} {cap : List D} (f : T -> Bool) (hc : pureD.pureL cap = true) (u : T) (hfit : fitB u = true) (hv : ∀ x ∈ z0j u, PC prog g (z0m x :: cap) (.bool (f x))) :
  PC prog 166 [z0m u, .fn g cap] (.bool ((z0j u).all f)) := by
 have h := zg4 (fun x (s : Unit) => (f x, s)) (low_true 0 rfl) (fun _ => 0) (z0j u).length (fun _ _ => by simp) u hfit (fun x hx s _ => (hv x hx).eff s) () (by simp)
 rw [zpt] at h
 exact ⟨by simp only [pureD.pureL, z02, pureD, hc, Bool.and_self], rfl, (h noH 0 (Nat.le_refl _) trivial).mono fun _ _ _ h => h.1⟩
def zsk (u : T) (n : Nat) : List HObj := [.box 27 (z0h u), .box 3 [.int .i64 (IntKind.i64.wrap n)]]
def zo1 (u : T) (l : List Idv) : List HObj := [.box 27 (z0h u), .box 91 [.osl 2 l.length], .row 23 l.length (l.flatMap z07)]
theorem zi7 (n : Nat) (u : T) : lowD.lowL n (z0h u) = true := z6c n _ (z04 u)
theorem low_C (u : T) : Low 2 fun n H => ∀ j, j < 2 -> H j = (zsk u n)[j]? := zpz (zsk u) (fun _ => rfl) fun n o ho => by
 simp only [zsk, List.mem_cons, List.not_mem_nil, or_false] at ho
 rcases ho with rfl | rfl
 ·exact zi7 _ _
 ·rfl
theorem low_I (u : T) : Low 3 fun l H => ∀ j, j < 3 -> H j = (zo1 u l)[j]? := zpz (zo1 u) (fun _ => rfl) fun l o ho => by
 simp only [zo1, List.mem_cons, List.not_mem_nil, or_false] at ho
 rcases ho with rfl | rfl | rfl
 ·exact zi7 _ _
 ·rfl
 ·exact z6c _ _ (z2d (fun _ => rfl) l)
theorem zsl (u x : T) (n : Nat) : Eff prog 168 [z0m x, .ptr 1 0] 2 (fun n H => ∀ j, j < 2 -> H j = (zsk u n)[j]?) n (n + 1) (.bool true) := by
 refine zg7 (low_C u) rfl fun H nx hlo hs => ?_
 have h1 : H 1 = some (.box 3 [.int .i64 (IntKind.i64.wrap n)]) := hs 1 (by omega)
 have h0 : H 0 = some (.box 27 (z0h u)) := hs 0 (by omega)
 have hne : (1 == nx) = false := by simp; omega
 have hne' : (0 == nx) = false := by simp; omega
 refine (z14 [] func168 rfl (by decide +kernel) rfl ?_)
 show awp _ _ (Code.seq _ _) _ _
 repeat' (first | ((refine zqh fun K J => ?_); (simp (disch := omega) only [go_sem, Nat.reduceBEq, ↓reduceIte, Nat.reduceAdd, Nat.reduceLeDiff, Nat.reduceLT, h1, hne])) | refine zqn ?_ | refine zqu (by simp only [go_sem]; rfl) rfl ?_ | (refine J _ ?_; clear J K))
 (simp (disch := omega) only [go_sem, Nat.reduceBEq])
 refine ⟨fun j hj => ?_, fun id h1 h2 => ?_⟩
 ·match j, hj with
  | 0, _ => simp [hne', h0, zsk]
  | 1, _ => simp [zsk]; simp only [IntKind.wrap_i64]; omega
 ·rw [show (id == 1) = false from by simp; omega, show (id == nx) = false from by simp; omega]; rfl
theorem eff_IDs1 (u x : T) (l : List Idv) (hl : l.length < 5000000000000) : Eff prog 167 [z0m x, .ptr 1 0] 3 (fun l H => ∀ j, j < 3 -> H j = (zo1 u l)[j]?) l (l ++ [x.id]) (.bool true) := by
 refine zg7 (low_I u) rfl fun H nx hlo hs => ?_
 have h1 : H 1 = some (.box 91 [.osl 2 l.length]) := hs 1 (by omega)
 have h0 : H 0 = some (.box 27 (z0h u)) := hs 0 (by omega)
 have h2 : H 2 = some (.row 23 l.length (l.flatMap z07)) := hs 2 (by omega)
 have hne : (1 == nx) = false := by simp; omega
 have hne' : (0 == nx) = false := by simp; omega
 have hne2 : (2 == nx) = false := by simp; omega
 refine (z14 [] func167 rfl (by decide +kernel) rfl ?_)
 show awp _ _ (Code.seq _ _) _ _
 repeat' (first | ((refine zqh fun K J => ?_); (simp (disch := omega) only [go_sem, Nat.reduceBEq, ↓reduceIte, reduceCtorEq, Nat.reduceAdd, Nat.reduceMul, Nat.reduceLeDiff, Nat.reduceLT, h1, h2, hne, hne2])) | refine zqn ?_ | refine zqu (by simp only [go_sem]; rfl) rfl ?_ | (refine J _ ?_; clear J K))
 (simp (disch := omega) only [go_sem, Nat.reduceBEq])
 refine ⟨fun j hj => ?_, fun id h1 h2 => ?_⟩
 ·match j, hj with
  | 0, _ => simp [hne', h0, zo1]
  | 1, _ => simp [zo1]
  | 2, _ => simp [zo1, z07]
 ·rw [show (id == 1) = false from by simp; omega, show (id == 2) = false from by simp; omega, show (id == nx) = false from by simp; omega]; rfl
theorem zje (u : T) (hfit : fitB u = true) (hs : cntT u <= 1000000000) : PC prog 115 [z0m u] (.int .i64 (cntT u)) := by
 refine z1g 1 (by simp only [pureD.pureL, z02, Bool.and_self]) rfl (z14 [] func115 rfl (by decide +kernel) rfl ?_)
 show awp _ _ (Code.seq _ _) _ _
 repeat' (first | ((refine zqh fun K J => ?_); (simp (disch := omega) only [go_sem, Nat.reduceBEq, ↓reduceIte, Nat.reduceAdd, Nat.reduceLeDiff, Nat.reduceLT])) | (refine J _ ?_; clear J K))
 have h := zg4 (fun _ n => (true, n + 1)) (low_C u) (fun _ => 0) (z0j u).length (fun _ _ => by simp) u hfit (fun x _ n _ => zsl u x n) 0 (by simp)
 rw [zpu] at h
 refine zci h (Nat.le_refl _) (fun j hj => ?_) fun H1 hs1 _ => ?_
 ·match j, hj with
  | 0, _ => rfl
  | 1, _ => rfl
 ·have h1 : H1 1 = some (.box 3 [.int .i64 (IntKind.i64.wrap ((0 + (z0j u).length : Nat) : Int))]) := hs1 1 (by omega)
  (try (simp (disch := omega) only [go_sem])); repeat' (first | ((refine zqh fun K J => ?_); (simp (disch := omega) only [go_sem, Nat.reduceBEq, ↓reduceIte, Nat.reduceAdd, h1])) | refine zqn ?_ | refine zqu (by simp only [go_sem]; rfl) rfl ?_ | (refine J _ ?_; clear J K))
  refine z1e ?_
  exact zsq (by unfold cntT at hs; omega)
theorem zw2 (u : T) (hfit : fitB u = true) (hs : cntT u <= 5000000000000) : PC prog 112 [z0m u] (z22 (idsT u)) := by
 refine z1g 2 (by simp only [pureD.pureL, z02, Bool.and_self]) (z4y _) (z14 [] func112 rfl (by decide +kernel) rfl ?_)
 show awp _ _ (Code.seq _ _) _ _
 (refine zqh fun K J => ?_); (simp only [go_sem, ↓reduceIte]); (refine J _ ?_); (clear J K)
 refine z3j fun K J => ?_
 (simp (disch := omega) only [go_sem, Nat.reduceAdd])
 refine J _ _ (zwu (b := 1) (e := 91) 23 (by (simp (disch := omega) only [go_sem, Nat.reduceBEq]))) ?_
 clear J K
 repeat' (((refine zqh fun K J => ?_); (simp (disch := omega) only [go_sem, Nat.reduceBEq, ↓reduceIte, Nat.reduceAdd, Nat.reduceLeDiff])))
 have h := zg4 (fun x l => (true, l ++ [x.id])) (low_I u) List.length (z0j u).length (fun x l => by simp) u hfit (fun x _ l hl => eff_IDs1 u x l (by unfold cntT at hs; omega)) [] (by simp)
 rw [zpv] at h
 refine zci h (Nat.le_refl _) (fun j hj => ?_) fun H1 hs1 _ => ?_
 ·match j, hj with
  | 0, _ => rfl
  | 1, _ => rfl
  | 2, _ => rfl
 ·have h1 : H1 1 = some (.box 91 [.osl 2 (idsT u).length]) := hs1 1 (by omega)
  have h2 : H1 2 = some (.row 23 (idsT u).length ((idsT u).flatMap z07)) := hs1 2 (by omega)
  (try (simp (disch := omega) only [go_sem])); repeat' (first | ((refine zqh fun K J => ?_); (simp (disch := omega) only [go_sem, Nat.reduceBEq, ↓reduceIte, Nat.reduceAdd, h1])) | refine zqn ?_ | refine zqu (by simp only [go_sem]; rfl) rfl ?_ | (refine J _ ?_; clear J K))
  refine z50 ?_
  exact z2j 0 h2 z1i z99 (fun _ => rfl) (fun _ => rfl)
end
section
open Abs Facts Tr
attribute [local irreducible] awp
namespace Tr
def z9m (p : Int -> Bool) (s : ByteArray) : Nat := ((bl s).takeWhile fun b => !p b.toNat).length
theorem zm4 {p : Int -> Bool} {s : ByteArray} {k : Nat} (hk : k <= s.size) (h1 : ∀ j, (hj : j < k) -> p ((bl s)[j]'(by rw [z23]; omega)).toNat = false) (h2 : ∀ h : k < s.size, p ((bl s)[k]'h).toNat = true) : z9m p s = k := by
 unfold z9m
 refine z6w (by rw [z23]; exact hk) (fun j hj => by rw [h1 j hj]; rfl) (fun h => by rw [h2 h]; rfl)
end Tr
theorem zwx {s : ByteArray} {i : Nat} (h : i < s.size) (hb : ((bl s)[i]'h).toNat < 128) : Utf8.decode s i = (((bl s)[i]'h).toNat, 1) := decode_ascii s i h hb
theorem zwy {s : ByteArray} {i : Nat} (h : i < s.size) (hb : 128 <= ((bl s)[i]'h).toNat) : 128 <= (Utf8.decode s i).1 := (decode_high s i h hb).1
theorem zm5 (s : ByteArray) (hs : s.size <= maxLen) {g : FuncId} {cap : List D} (p : Int -> Bool) (hc : pureD.pureL cap = true)
  (hp : ∀ r : Nat, r <= 2147483647 -> PC prog g (.int .i32 r :: cap) (.bool (p r))) (hbig : ∀ r : Nat, 128 <= r -> p r = true) :
  PC prog 190 [.str s, .fn g cap, .bool true] (.int .i64 (if z9m p s < s.size then (z9m p s : Int) else -1)) := by
 unfold maxLen at hs
 refine z1g 1 (by simp only [pureD.pureL, pureD, hc, Bool.and_self]) rfl (z14 [] func190 rfl (by decide +kernel) rfl ?_)
 show awp _ _ (Code.seq _ _) _ _
 repeat' (first | refine zqj ?_ | ((refine zqh fun K J => ?_); (simp (disch := omega) only [go_sem, Nat.reduceBEq, ↓reduceIte])) | refine zqa ?_ | (refine J _ ?_; clear J K))
 have hdp : ∀ i (h : i < s.size), p (Utf8.decode s i).1 = p ((bl s)[i]'h).toNat /\ (p ((bl s)[i]'h).toNat = false -> (Utf8.decode s i).2 = 1) := fun i h => by
  rcases Nat.lt_or_ge ((bl s)[i]'h).toNat 128 with hb | hb
  ·rw [zwx h hb]; exact ⟨rfl, fun _ => rfl⟩
  ·rw [hbig _ (zwy h hb), hbig _ hb]; exact ⟨rfl, fun h => by cases h⟩
 (refine z4m (fun U st => ∃ (i : _), U = s.size - i /\ st.t 1 = .fn g cap /\ st.t 2 = .bool true /\ st.t 10 = .it 0 /\ st.H 0 = some (.raw (.stringIter s i)) /\ (i <= s.size) /\ (∀ j, (hj : j < i) -> (h : j < (bl s).length) -> p (bl s)[j].toNat = false) /\ (1 <= st.nx)) ?_ ?_); rotate_left; (rintro U st ⟨i, rfl, q1, q2, q10, qH0, qp0, qp1, qp2⟩); rotate_left
 ·(refine ⟨_, 0, rfl, ?_⟩); (simp (disch := omega) only [go_sem, Nat.reduceBEq, Nat.reduceLeDiff, true_and, and_true])
  intro j hj; omega
 by_cases hi : i < s.size
 ·have hp := hp (Utf8.decode s i).1 (decode_le s i)
  obtain ⟨hd1, hd2⟩ := hdp i hi
  repeat' (first | ((first | refine zqh fun K J => ?_ | refine zqs (hp) ?_); (simp (disch := omega) only [go_sem, Nat.reduceBEq, ↓reduceIte, q1, q2, q10, qH0, hi])) | ((first | refine zqd _ rfl (fun hc => ?_) (fun hc => ?_) | refine zqm _ rfl (fun hc => ?_) (fun hc => ?_)) <;> (first | (cases hc; done) | ((try simp only [] at hc); (try omega)))) | refine zqi ?_ | refine zqb ?_ | refine zqk ?_ | refine zqn ?_ | refine zqx ?_ | refine zqy ?_ | refine z6q ?_ | refine zqo ?_ | refine zqu (by simp only [go_sem]; rfl) rfl ?_ | (refine J _ ?_; clear J K))
  ·refine z1e ?_
   rw [zm4 (k := i) (by omega) (fun j hj => qp1 j hj (by rw [z23]; omega)) (fun h => by rw [<- hd1]; assumption), if_pos hi]
  ·have hd1 := hd1.symm.trans (by assumption)
   have hd2 := hd2 hd1
   (refine Exists.intro _ (And.intro ?_ ⟨i + 1, rfl, ?_⟩)); rotate_left; (simp (disch := omega) only [go_sem, Nat.reduceBEq, q1, q2, q10, qH0, true_and, hd2]); rotate_left
   ·omega
   ·refine ⟨by omega, fun j hj h => ?_, by omega⟩
    by_cases e : j = i
    ·subst e; exact hd1
    ·exact qp1 j (by omega) h
 ·repeat' (first | ((refine zqh fun K J => ?_); (simp (disch := omega) only [go_sem, ↓reduceIte, q10, qH0, hi])) | ((refine zqd _ rfl (fun hc => ?_) (fun hc => ?_)) <;> (first | (cases hc; done) | ((try simp only [] at hc); (try omega)))) | refine zqc ?_ | refine zqn ?_ | refine zqv ?_ | refine zqz ?_ | refine zqp ?_ | refine zqu (by simp only [go_sem]; rfl) rfl ?_ | (refine J _ ?_; clear J K))
  refine z1e ?_
  have hi2 : i = s.size := by omega
  subst hi2
  rw [zm4 (k := s.size) (by omega) (fun j hj => qp1 j hj (by rw [z23]; omega)) (fun h => by omega), if_neg (by omega)]
theorem zef (s : ByteArray) (hs : s.size <= maxLen) {g : FuncId} {cap : List D} (p : Int -> Bool) (hc : pureD.pureL cap = true)
  (hp : ∀ r : Nat, r <= 2147483647 -> PC prog g (.int .i32 r :: cap) (.bool (p r))) (hbig : ∀ r : Nat, 128 <= r -> p r = true) :
  PC prog 174 [.str s, .fn g cap] (.int .i64 (if z9m p s < s.size then (z9m p s : Int) else -1)) := by
 have h := zm5 s hs p hc hp hbig
 refine z1g 1 (by simp only [pureD.pureL, pureD, hc, Bool.and_self]) rfl (z14 [] func174 rfl (by decide +kernel) rfl ?_)
 show awp _ _ (Code.seq _ _) _ _
 repeat' (first | ((first | refine zqh fun K J => ?_ | refine zqs (h) ?_); (simp (disch := omega) only [go_sem, Nat.reduceBEq])) | refine zqn ?_ | refine zqu (by simp only [go_sem]; rfl) rfl ?_ | (refine J _ ?_; clear J K))
 exact z1e rfl
theorem zez (s : ByteArray) (hs : s.size <= maxLen) {g : FuncId} {cap : List D} (p : Int -> Bool) (hc : pureD.pureL cap = true)
  (hp : ∀ r : Nat, r <= 2147483647 -> PC prog g (.int .i32 r :: cap) (.bool (p r))) (hbig : ∀ r : Nat, 128 <= r -> p r = true) :
  PC prog 136 [.str s, .fn g cap] (.bool (decide (z9m p s < s.size))) := by
 have h := zef s hs p hc hp hbig
 refine z1g 1 (by simp only [pureD.pureL, pureD, hc, Bool.and_self]) rfl (z14 [] func136 rfl (by decide +kernel) rfl ?_)
 show awp _ _ (Code.seq _ _) _ _
 repeat' (first | ((first | refine zqh fun K J => ?_ | refine zqs (h) ?_); (simp (disch := omega) only [go_sem, Nat.reduceBEq, ↓reduceIte])) | refine zqn ?_ | refine zqu (by simp only [go_sem]; rfl) rfl ?_ | (refine J _ ?_; clear J K))
 refine z03 ?_
 by_cases h : z9m p s < s.size
 ·rw [if_pos h]; simp [h]
 ·rw [if_neg h]; simp [h]
def zeg (r : Int) : Bool := decide (r < 48) || decide (57 < r)
def zcl (r : Int) : Bool := decide (r < 65) || decide (90 < r)
theorem zsw (r : Nat) : PC prog 175 [.int .i32 r] (.bool (zeg r)) := by
 refine z1g 1 (by simp only [pureD.pureL, pureD, Bool.and_self]) rfl (z14 [] func175 rfl (by decide +kernel) rfl ?_)
 show awp _ _ (Code.seq _ _) _ _
 repeat' (first | ((refine zqh fun K J => ?_); (simp (disch := omega) only [go_sem, Nat.reduceBEq, ↓reduceIte])) | refine zqn ?_ | refine zqu (by simp only [go_sem]; rfl) rfl ?_ | (refine J _ ?_; clear J K) | (refine zqf (fun hb => ?_) (fun hb => ?_) <;> (have hb2 := hb; try simp only [z0b] at hb2) <;> ((first | have hb3 := eq_false hb2 | have hb3 := eq_true hb2); (simp (disch := omega) only [go_sem, Nat.reduceBEq, ↓reduceIte, hb3]); clear hb hb3; (try omega))))
 ·exact z03 (by unfold zeg; rw [decide_eq_false (show ¬ (r : Int) < 48 by assumption)]; rfl)
 ·exact z03 (by unfold zeg; rw [decide_eq_true (show (r : Int) < 48 by assumption)]; rfl)
theorem zwz (r : Nat) : PC prog 135 [.int .i32 r] (.bool (zcl r)) := by
 refine z1g 1 (by simp only [pureD.pureL, pureD, Bool.and_self]) rfl (z14 [] func135 rfl (by decide +kernel) rfl ?_)
 show awp _ _ (Code.seq _ _) _ _
 repeat' (first | ((refine zqh fun K J => ?_); (simp (disch := omega) only [go_sem, Nat.reduceBEq, ↓reduceIte])) | refine zqn ?_ | refine zqu (by simp only [go_sem]; rfl) rfl ?_ | (refine J _ ?_; clear J K) | (refine zqf (fun hb => ?_) (fun hb => ?_) <;> (have hb2 := hb; try simp only [z0b] at hb2) <;> ((first | have hb3 := eq_false hb2 | have hb3 := eq_true hb2); (simp (disch := omega) only [go_sem, Nat.reduceBEq, ↓reduceIte, hb3]); clear hb hb3; (try omega))))
 ·exact z03 (by unfold zcl; rw [decide_eq_false (show ¬ (r : Int) < 65 by assumption)]; rfl)
 ·exact z03 (by unfold zcl; rw [decide_eq_true (show (r : Int) < 65 by assumption)]; rfl)
def zm6 (s : ByteArray) : ByteArray := if za4 s < s.size then s.extract 0 (za4 s) else s
def zsx (s : ByteArray) : ByteArray := if za4 s < s.size then s.extract (za4 s) s.size else ByteArray.empty
theorem zid (s : ByteArray) (a b : Nat) : bl (s.extract a b) = ((bl s).take b).drop a := by
 unfold bl
 rw [ByteArray.data_extract, Array.toList_extract, List.extract]
 rw [List.drop_take]
theorem zq6 (s : ByteArray) : bl (zm6 s) = (bl s).take (za4 s) := by
 unfold zm6
 have := zdv s
 split
 ·rw [zid, List.drop_zero]
 ·rw [List.take_of_length_le (by rw [z23]; omega)]
theorem zq7 (s : ByteArray) : bl (zsx s) = (bl s).drop (za4 s) := by
 unfold zsx
 have := zdv s
 split
 ·rw [zid, List.take_of_length_le (by rw [z23]; omega)]
 ·rw [List.drop_eq_nil_of_le (by rw [z23]; omega)]; rfl
theorem zsy (s : ByteArray) : (zm6 s).size = za4 s := by
 have := zdv s
 rw [<- z23, zq6, List.length_take, z23]; omega
theorem zsz (s : ByteArray) : (zsx s).size = s.size - za4 s := by rw [<- z23, zq7, List.length_drop, z23]
theorem zt0 : (fun b : UInt8 => !zeg b.toNat) = dig := by
 funext b
 unfold zeg dig
 rcases Nat.lt_or_ge b.toNat 48 with h | h
 ·rw [decide_eq_true (show (b.toNat : Int) < 48 by omega), decide_eq_false (show ¬ (48 <= b.toNat /\ b.toNat <= 57) by omega)]; rfl
 ·rw [decide_eq_false (show ¬ (b.toNat : Int) < 48 by omega)]
  rcases Nat.lt_or_ge 57 b.toNat with h2 | h2
  ·rw [decide_eq_true (show (57 : Int) < b.toNat by omega), decide_eq_false (show ¬ (48 <= b.toNat /\ b.toNat <= 57) by omega)]; rfl
  ·rw [decide_eq_false (show ¬ (57 : Int) < b.toNat by omega), decide_eq_true (show 48 <= b.toNat /\ b.toNat <= 57 by omega)]; rfl
theorem zie : (fun b : UInt8 => !zcl b.toNat) = cap := by
 funext b
 unfold zcl cap
 rcases Nat.lt_or_ge b.toNat 65 with h | h
 ·rw [decide_eq_true (show (b.toNat : Int) < 65 by omega), decide_eq_false (show ¬ (65 <= b.toNat /\ b.toNat <= 90) by omega)]; rfl
 ·rw [decide_eq_false (show ¬ (b.toNat : Int) < 65 by omega)]
  rcases Nat.lt_or_ge 90 b.toNat with h2 | h2
  ·rw [decide_eq_true (show (90 : Int) < b.toNat by omega), decide_eq_false (show ¬ (65 <= b.toNat /\ b.toNat <= 90) by omega)]; rfl
  ·rw [decide_eq_false (show ¬ (90 : Int) < b.toNat by omega), decide_eq_true (show 65 <= b.toNat /\ b.toNat <= 90 by omega)]; rfl
theorem z96 {α : Type} (q : α -> Bool) : ∀ (l : List α), ((l.takeWhile q).length < l.length) ↔ l.all q = false
 | [] => by simp
 | x :: l => by
  rw [List.takeWhile_cons, List.all_cons]
  cases q x
  ·simp
  ·simp [z96 q l]
theorem zjt (s : ByteArray) : decide (z9m zcl s < s.size) = !(bl s).all cap := by
 have h := z96 (fun b : UInt8 => !zcl b.toNat) (bl s)
 rw [zie] at h
 unfold z9m
 rw [zie, <- z23]
 cases ha : (bl s).all cap
 ·exact decide_eq_true (h.2 ha)
 ·exact decide_eq_false (fun h2 => by rw [h.1 h2] at ha; cases ha)
theorem zx0 (s : ByteArray) (hs : s.size <= maxLen) : PC prog 134 [.str s] (.tup [.str (zm6 s), .str (zsx s)]) := by
 have h := zef s hs (cap := []) zeg rfl (fun r _ => zsw r) (fun r hr => by unfold zeg; rw [decide_eq_true (show (57 : Int) < r by omega), Bool.or_true])
 rw [show z9m zeg s = za4 s from by unfold z9m za4; rw [zt0]] at h
 have hle := zdv s
 unfold maxLen at hs
 refine z1g 2 (by simp only [pureD.pureL, pureD, Bool.and_self]) rfl (z14 [] func134 rfl (by decide +kernel) rfl ?_)
 show awp _ _ (Code.seq _ _) _ _
 unfold zm6 zsx
 by_cases hd : za4 s < s.size
 ·rw [if_pos hd] at h
  rw [if_pos hd, if_pos hd]
  repeat' (first | refine zqj ?_ | ((first | refine zqh fun K J => ?_ | refine zqe (by decide +kernel) fun K J => ?_ | refine zqs (h) ?_); (simp (disch := omega) only [go_sem, Nat.reduceBEq, ↓reduceIte])) | ((refine zqd _ rfl (fun hc => ?_) (fun hc => ?_)) <;> (first | (cases hc; done) | ((try simp only [decide_eq_false_iff_not] at hc); (try omega)))) | refine zqb ?_ | refine zqn ?_ | refine zqu (by simp only [go_sem]; rfl) rfl ?_ | (refine J _ ?_; clear J K))
  exact z0a rfl (Le.refl _)
 ·rw [if_neg hd] at h
  rw [if_neg hd, if_neg hd]
  repeat' (first | refine zqj ?_ | ((first | refine zqh fun K J => ?_ | refine zqs (h) ?_); (simp (disch := omega) only [go_sem, Nat.reduceBEq, ↓reduceIte, Int.reduceLT])) | ((refine zqd _ rfl (fun hc => ?_) (fun hc => ?_)) <;> (first | (cases hc; done) | ((try simp only [] at hc); (try omega)))) | refine zqg ?_ | refine zqu (by simp only [go_sem]; rfl) rfl ?_ | (refine J _ ?_; clear J K))
  exact z0a rfl (Le.refl _)
theorem zcm (s : ByteArray) (hs : s.size <= maxLen) : PC prog 80 [.str s] (.bool (z4f s)) := by
 have h := zx0 s hs
 have hA := zsy s
 have hB := zsz s
 have hle := zdv s
 have hc := zez (zsx s) (by omega) (cap := []) zcl rfl (fun r _ => zwz r) (fun r hr => by unfold zcl; rw [decide_eq_true (show (90 : Int) < r by omega), Bool.or_true])
 rw [zjt, zq7] at hc
 have hbl := z23 (zm6 s)
 unfold maxLen at hs
 have hz : Int.toNat 0 = 0 := rfl
 have hne : ∀ h : 0 < (zm6 s).size, (bl (zm6 s))[0].toNat = ((bl s).headD 0).toNat := fun h => by
  refine (congrArg UInt8.toNat (bhead h)).trans ?_
  rw [zq6]
  congr 1
  obtain ⟨n, hn⟩ : ∃ n, za4 s = n + 1 := ⟨za4 s - 1, by omega⟩
  rw [hn]
  cases bl s <;> rfl
 refine z1g 1 (by simp only [pureD.pureL, pureD, Bool.and_self]) rfl (z14 [] func80 rfl (by decide +kernel) rfl ?_)
 show awp _ _ (Code.seq _ _) _ _
 repeat' (first | ((first | refine zqh fun K J => ?_ | refine zqs (h) ?_ | refine zqs (hc) ?_); (simp (disch := omega) only [go_sem, Nat.reduceBEq, ↓reduceIte])) | refine zqn ?_ | refine zqu (by simp only [go_sem]; rfl) rfl ?_ | (refine J _ ?_; clear J K) | (refine zqf (fun hb => ?_) (fun hb => ?_) <;> (have hb2 := hb; try simp only [z0b] at hb2) <;> ((first | have hb3 := eq_false hb2 | have hb3 := eq_true hb2); (simp (disch := omega) only [go_sem, Nat.reduceBEq, ↓reduceIte, Int.reduceLE, hb3, bget, hz]); clear hb hb3; (try omega))))
 ·have hf := hne (by omega)
  exact z03 (by unfold z4f; rw [decide_eq_true (by omega), Bool.true_and, Bool.not_not])
 ·exact z03 (by unfold z4f; rw [decide_eq_false (by omega)]; rfl)
 ·have hf := hne (by omega)
  exact z03 (by unfold z4f; rw [decide_eq_false (by omega)]; rfl)
 ·exact z03 (by unfold z4f; rw [decide_eq_false (by omega)]; rfl)
 ·exact z03 (by unfold z4f; rw [decide_eq_false (by omega)]; rfl)
def zww (b : UInt8) : D := .int .u8 b.toNat
namespace Tr
def z2v {α : Type} (f : α -> Bool) (l : List α) : Nat := (l.takeWhile fun x => !f x).length
theorem z39 {α : Type} {f : α -> Bool} {l : List α} {k : Nat} (hk : k <= l.length) (h1 : ∀ j, (hj : j < k) -> f (l[j]'(by omega)) = false) (h2 : ∀ h : k < l.length, f l[k] = true) : z2v f l = k := by
 unfold z2v
 exact z6w hk (fun j hj => by rw [h1 j hj]; rfl) (fun h => by rw [h2 h]; rfl)
theorem z95 {α : Type} (f : α -> Bool) (l : List α) : decide (z2v f l < l.length) = l.any f := by
 have h := z96 (fun x => !f x) l
 have h2 : (l.all fun x => !f x) = !l.any f := by rw [<- List.not_any_eq_all_not]
 unfold z2v
 rw [h2] at h
 cases ha : l.any f
 ·exact decide_eq_false (fun h3 => by have := h.1 h3; rw [ha] at this; cases this)
 ·exact decide_eq_true (h.2 (by rw [ha]; rfl))
end Tr
theorem zjo (nn : Bool) (l : List UInt8) (hl : l.length <= maxLen) {g : FuncId} {cap : List D} (f : UInt8 -> Bool) (hc : pureD.pureL cap = true) (hp : ∀ x ∈ l, PC prog g (zww x :: cap) (.bool (f x))) :
  PC prog 198 [.rsl nn 1 (l.map zww), .fn g cap] (.int .i64 (if z2v f l < l.length then (z2v f l : Int) else -1)) := by
 unfold maxLen at hl
 refine z1g 1 (by simp only [pureD.pureL, pureD, hc, z0x (f := zww) (fun _ => rfl) l, Bool.and_self]) rfl (z14 [] func198 rfl (by decide +kernel) rfl ?_)
 show awp _ _ (Code.seq _ _) _ _
 repeat' (first | refine zqj ?_ | ((refine zqh fun K J => ?_); (simp (disch := omega) only [go_sem, Nat.reduceBEq])) | refine zqa ?_ | (refine J _ ?_; clear J K))
 (refine z4m (fun U st => ∃ (i : _), U = l.length - i /\ st.t 0 = .rsl nn 1 (l.map zww) /\ st.t 1 = .fn g cap /\ st.t 7 = .int .i64 l.length /\ st.t 8 = .int .i64 i /\ (i <= l.length) /\ (∀ j, (hj : j < i) -> (h : j < l.length) -> f l[j] = false)) ?_ ?_); rotate_left; (rintro U st ⟨i, rfl, q0, q1, q7, q8, qp0, qp1⟩); rotate_left
 ·(refine ⟨_, 0, rfl, ?_⟩); (simp (disch := omega) only [go_sem, Nat.reduceBEq, true_and, Int.natCast_zero])
  intro j hj; omega
 have hp := fun (h : i < l.length) => hp l[i] (List.getElem_mem h)
 repeat' (first | ((first | refine zqh fun K J => ?_ | refine zqr fun K J => ?_ | refine zqs (hp (by omega)) ?_); (simp (disch := omega) only [go_sem, Nat.reduceBEq, ↓reduceIte, reduceCtorEq, Nat.reduceAdd, q0, q1, q7, q8, zww])) | ((first | refine zqd _ rfl (fun hc => ?_) (fun hc => ?_) | refine zqm _ rfl (fun hc => ?_) (fun hc => ?_)) <;> (((try simp only [z0b] at hc); (try omega)))) | refine zqa ?_ | refine zqb ?_ | refine zqc ?_ | refine zqk ?_ | refine zqn ?_ | refine zqv ?_ | refine zqx ?_ | refine zqy ?_ | refine zqz ?_ | refine z6q ?_ | refine zqp ?_ | refine zqo ?_ | refine zqu (by simp only [go_sem]; rfl) rfl ?_ | (refine J _ ?_; clear J K))
 ·refine z1e ?_
  rw [z39 (k := i) (by omega) (fun j hj => qp1 j hj (by omega)) (fun h => by assumption), if_pos (by omega)]
 ·(refine Exists.intro _ (And.intro ?_ ⟨i + 1, rfl, ?_⟩)); rotate_left; (simp (disch := omega) only [go_sem, Nat.reduceBEq, q0, q1, q7, q8, true_and, Int.natCast_add, Int.natCast_one]); rotate_left
  ·omega
  ·refine ⟨by omega, fun j hj h => ?_⟩
   by_cases e : j = i
   ·subst e; assumption
   ·exact qp1 j (by omega) h
 ·refine z1e ?_
  have hi : i = l.length := by omega
  subst hi
  rw [z39 (k := l.length) (by omega) (fun j hj => qp1 j hj (by omega)) (fun h => by omega), if_neg (by omega)]
theorem zev (nn : Bool) (l : List UInt8) (hl : l.length <= maxLen) {g : FuncId} {cap : List D} (f : UInt8 -> Bool) (hc : pureD.pureL cap = true) (hp : ∀ x ∈ l, PC prog g (zww x :: cap) (.bool (f x))) :
  PC prog 193 [.rsl nn 1 (l.map zww), .fn g cap] (.bool (l.any f)) := by
 have h := zjo nn l hl f hc hp
 refine z1g 1 (by simp only [pureD.pureL, pureD, hc, z0x (f := zww) (fun _ => rfl) l, Bool.and_self]) rfl (z14 [] func193 rfl (by decide +kernel) rfl ?_)
 show awp _ _ (Code.seq _ _) _ _
 repeat' (first | ((first | refine zqh fun K J => ?_ | refine zqs (h) ?_); (simp (disch := omega) only [go_sem, Nat.reduceBEq, ↓reduceIte])) | refine zqn ?_ | refine zqu (by simp only [go_sem]; rfl) rfl ?_ | (refine J _ ?_; clear J K))
 refine z03 ?_
 rw [<- z95]
 by_cases h : z2v f l < l.length
 ·rw [if_pos h]; simp [h]
 ·rw [if_neg h]; simp [h]
theorem zjp (nn : Bool) (l : List ByteArray) (hl : l.length <= maxLen) {g : FuncId} {cap : List D} (f : ByteArray -> Bool) (hc : pureD.pureL cap = true) (hp : ∀ x ∈ l, PC prog g (D.str x :: cap) (.bool (f x))) :
  PC prog 191 [.rsl nn 1 (l.map D.str), .fn g cap] (.int .i64 (if z2v f l < l.length then (z2v f l : Int) else -1)) := by
 unfold maxLen at hl
 refine z1g 1 (by simp only [pureD.pureL, pureD, hc, z0x (f := D.str) (fun _ => rfl) l, Bool.and_self]) rfl (z14 [] func191 rfl (by decide +kernel) rfl ?_)
 show awp _ _ (Code.seq _ _) _ _
 repeat' (first | refine zqj ?_ | ((refine zqh fun K J => ?_); (simp (disch := omega) only [go_sem, Nat.reduceBEq])) | refine zqa ?_ | (refine J _ ?_; clear J K))
 (refine z4m (fun U st => ∃ (i : _), U = l.length - i /\ st.t 0 = .rsl nn 1 (l.map D.str) /\ st.t 1 = .fn g cap /\ st.t 7 = .int .i64 l.length /\ st.t 8 = .int .i64 i /\ (i <= l.length) /\ (∀ j, (hj : j < i) -> (h : j < l.length) -> f l[j] = false)) ?_ ?_); rotate_left; (rintro U st ⟨i, rfl, q0, q1, q7, q8, qp0, qp1⟩); rotate_left
 ·(refine ⟨_, 0, rfl, ?_⟩); (simp (disch := omega) only [go_sem, Nat.reduceBEq, true_and, Int.natCast_zero])
  intro j hj; omega
 have hp := fun (h : i < l.length) => hp l[i] (List.getElem_mem h)
 repeat' (first | ((first | refine zqh fun K J => ?_ | refine zqr fun K J => ?_ | refine zqs (hp (by omega)) ?_); (simp (disch := omega) only [go_sem, Nat.reduceBEq, ↓reduceIte, reduceCtorEq, Nat.reduceAdd, q0, q1, q7, q8])) | ((first | refine zqd _ rfl (fun hc => ?_) (fun hc => ?_) | refine zqm _ rfl (fun hc => ?_) (fun hc => ?_)) <;> (((try simp only [z0b] at hc); (try omega)))) | refine zqa ?_ | refine zqb ?_ | refine zqc ?_ | refine zqk ?_ | refine zqn ?_ | refine zqv ?_ | refine zqx ?_ | refine zqy ?_ | refine zqz ?_ | refine z6q ?_ | refine zqp ?_ | refine zqo ?_ | refine zqu (by simp only [go_sem]; rfl) rfl ?_ | (refine J _ ?_; clear J K))
 ·refine z1e ?_
  rw [z39 (k := i) (by omega) (fun j hj => qp1 j hj (by omega)) (fun h => by assumption), if_pos (by omega)]
 ·(refine Exists.intro _ (And.intro ?_ ⟨i + 1, rfl, ?_⟩)); rotate_left; (simp (disch := omega) only [go_sem, Nat.reduceBEq, q0, q1, q7, q8, true_and, Int.natCast_add, Int.natCast_one]); rotate_left
  ·omega
  ·refine ⟨by omega, fun j hj h => ?_⟩
   by_cases e : j = i
   ·subst e; assumption
   ·exact qp1 j (by omega) h
 ·refine z1e ?_
  have hi : i = l.length := by omega
  subst hi
  rw [z39 (k := l.length) (by omega) (fun j hj => qp1 j hj (by omega)) (fun h => by omega), if_neg (by omega)]
theorem zew (nn : Bool) (l : List ByteArray) (hl : l.length <= maxLen) {g : FuncId} {cap : List D} (f : ByteArray -> Bool) (hc : pureD.pureL cap = true) (hp : ∀ x ∈ l, PC prog g (D.str x :: cap) (.bool (f x))) :
  PC prog 176 [.rsl nn 1 (l.map D.str), .fn g cap] (.bool (l.any f)) := by
 have h := zjp nn l hl f hc hp
 refine z1g 1 (by simp only [pureD.pureL, pureD, hc, z0x (f := D.str) (fun _ => rfl) l, Bool.and_self]) rfl (z14 [] func176 rfl (by decide +kernel) rfl ?_)
 show awp _ _ (Code.seq _ _) _ _
 repeat' (first | ((first | refine zqh fun K J => ?_ | refine zqs (h) ?_); (simp (disch := omega) only [go_sem, Nat.reduceBEq, ↓reduceIte])) | refine zqn ?_ | refine zqu (by simp only [go_sem]; rfl) rfl ?_ | (refine J _ ?_; clear J K))
 refine z03 ?_
 rw [<- z95]
 by_cases h : z2v f l < l.length
 ·rw [if_pos h]; simp [h]
 ·rw [if_neg h]; simp [h]
theorem zjq (nn : Bool) (l : List Wd) (hl : l.length <= maxLen) {g : FuncId} {cap : List D} (f : Wd -> Bool) (hc : pureD.pureL cap = true) (hp : ∀ x ∈ l, PC prog g (z7c x :: cap) (.bool (f x))) :
  PC prog 179 [.rsl nn 4 (l.map z7c), .fn g cap] (.int .i64 (if z2v f l < l.length then (z2v f l : Int) else -1)) := by
 unfold maxLen at hl
 refine z1g 1 (by simp only [pureD.pureL, pureD, hc, z0x (f := z7c) (fun _ => rfl) l, Bool.and_self]) rfl (z14 [] func179 rfl (by decide +kernel) rfl ?_)
 show awp _ _ (Code.seq _ _) _ _
 repeat' (first | refine zqj ?_ | ((refine zqh fun K J => ?_); (simp (disch := omega) only [go_sem, Nat.reduceBEq])) | refine zqa ?_ | (refine J _ ?_; clear J K))
 (refine z4m (fun U st => ∃ (i : _), U = l.length - i /\ st.t 0 = .rsl nn 4 (l.map z7c) /\ st.t 1 = .fn g cap /\ st.t 7 = .int .i64 l.length /\ st.t 8 = .int .i64 i /\ (i <= l.length) /\ (∀ j, (hj : j < i) -> (h : j < l.length) -> f l[j] = false)) ?_ ?_); rotate_left; (rintro U st ⟨i, rfl, q0, q1, q7, q8, qp0, qp1⟩); rotate_left
 ·(refine ⟨_, 0, rfl, ?_⟩); (simp (disch := omega) only [go_sem, Nat.reduceBEq, true_and, Int.natCast_zero])
  intro j hj; omega
 have hp := fun (h : i < l.length) => hp l[i] (List.getElem_mem h)
 repeat' (first | ((first | refine zqh fun K J => ?_ | refine zqr fun K J => ?_ | refine zqs (hp (by omega)) ?_); (simp (disch := omega) only [go_sem, Nat.reduceBEq, ↓reduceIte, reduceCtorEq, Nat.reduceAdd, q0, q1, q7, q8])) | ((first | refine zqd _ rfl (fun hc => ?_) (fun hc => ?_) | refine zqm _ rfl (fun hc => ?_) (fun hc => ?_)) <;> (((try simp only [z0b] at hc); (try omega)))) | refine zqa ?_ | refine zqb ?_ | refine zqc ?_ | refine zqk ?_ | refine zqn ?_ | refine zqv ?_ | refine zqx ?_ | refine zqy ?_ | refine zqz ?_ | refine z6q ?_ | refine zqp ?_ | refine zqo ?_ | refine zqu (by simp only [go_sem]; rfl) rfl ?_ | (refine J _ ?_; clear J K))
 ·refine z1e ?_
  rw [z39 (k := i) (by omega) (fun j hj => qp1 j hj (by omega)) (fun h => by assumption), if_pos (by omega)]
 ·(refine Exists.intro _ (And.intro ?_ ⟨i + 1, rfl, ?_⟩)); rotate_left; (simp (disch := omega) only [go_sem, Nat.reduceBEq, q0, q1, q7, q8, true_and, Int.natCast_add, Int.natCast_one]); rotate_left
  ·omega
  ·refine ⟨by omega, fun j hj h => ?_⟩
   by_cases e : j = i
   ·subst e; assumption
   ·exact qp1 j (by omega) h
 ·refine z1e ?_
  have hi : i = l.length := by omega
  subst hi
  rw [z39 (k := l.length) (by omega) (fun j hj => qp1 j hj (by omega)) (fun h => by omega), if_neg (by omega)]
theorem zex (nn : Bool) (l : List Wd) (hl : l.length <= maxLen) {g : FuncId} {cap : List D} (f : Wd -> Bool) (hc : pureD.pureL cap = true) (hp : ∀ x ∈ l, PC prog g (z7c x :: cap) (.bool (f x))) :
  PC prog 142 [.rsl nn 4 (l.map z7c), .fn g cap] (.bool (l.any f)) := by
 have h := zjq nn l hl f hc hp
 refine z1g 1 (by simp only [pureD.pureL, pureD, hc, z0x (f := z7c) (fun _ => rfl) l, Bool.and_self]) rfl (z14 [] func142 rfl (by decide +kernel) rfl ?_)
 show awp _ _ (Code.seq _ _) _ _
 repeat' (first | ((first | refine zqh fun K J => ?_ | refine zqs (h) ?_); (simp (disch := omega) only [go_sem, Nat.reduceBEq, ↓reduceIte])) | refine zqn ?_ | refine zqu (by simp only [go_sem]; rfl) rfl ?_ | (refine J _ ?_; clear J K))
 refine z03 ?_
 rw [<- z95]
 by_cases h : z2v f l < l.length
 ·rw [if_pos h]; simp [h]
 ·rw [if_neg h]; simp [h]
theorem zjr (nn : Bool) (l : List Idv) (hl : l.length <= maxLen) {g : FuncId} {cap : List D} (f : Idv -> Bool) (hc : pureD.pureL cap = true) (hp : ∀ x ∈ l, PC prog g (z0n x :: cap) (.bool (f x))) :
  PC prog 165 [.rsl nn 3 (l.map z0n), .fn g cap] (.int .i64 (if z2v f l < l.length then (z2v f l : Int) else -1)) := by
 unfold maxLen at hl
 refine z1g 1 (by simp only [pureD.pureL, pureD, hc, z0x (f := z0n) (fun _ => rfl) l, Bool.and_self]) rfl (z14 [] func165 rfl (by decide +kernel) rfl ?_)
 show awp _ _ (Code.seq _ _) _ _
 repeat' (first | refine zqj ?_ | ((refine zqh fun K J => ?_); (simp (disch := omega) only [go_sem, Nat.reduceBEq])) | refine zqa ?_ | (refine J _ ?_; clear J K))
 (refine z4m (fun U st => ∃ (i : _), U = l.length - i /\ st.t 0 = .rsl nn 3 (l.map z0n) /\ st.t 1 = .fn g cap /\ st.t 7 = .int .i64 l.length /\ st.t 8 = .int .i64 i /\ (i <= l.length) /\ (∀ j, (hj : j < i) -> (h : j < l.length) -> f l[j] = false)) ?_ ?_); rotate_left; (rintro U st ⟨i, rfl, q0, q1, q7, q8, qp0, qp1⟩); rotate_left
 ·(refine ⟨_, 0, rfl, ?_⟩); (simp (disch := omega) only [go_sem, Nat.reduceBEq, true_and, Int.natCast_zero])
  intro j hj; omega
 have hp := fun (h : i < l.length) => hp l[i] (List.getElem_mem h)
 repeat' (first | ((first | refine zqh fun K J => ?_ | refine zqr fun K J => ?_ | refine zqs (hp (by omega)) ?_); (simp (disch := omega) only [go_sem, Nat.reduceBEq, ↓reduceIte, reduceCtorEq, Nat.reduceAdd, q0, q1, q7, q8])) | ((first | refine zqd _ rfl (fun hc => ?_) (fun hc => ?_) | refine zqm _ rfl (fun hc => ?_) (fun hc => ?_)) <;> (((try simp only [z0b] at hc); (try omega)))) | refine zqa ?_ | refine zqb ?_ | refine zqc ?_ | refine zqk ?_ | refine zqn ?_ | refine zqv ?_ | refine zqx ?_ | refine zqy ?_ | refine zqz ?_ | refine z6q ?_ | refine zqp ?_ | refine zqo ?_ | refine zqu (by simp only [go_sem]; rfl) rfl ?_ | (refine J _ ?_; clear J K))
 ·refine z1e ?_
  rw [z39 (k := i) (by omega) (fun j hj => qp1 j hj (by omega)) (fun h => by assumption), if_pos (by omega)]
 ·(refine Exists.intro _ (And.intro ?_ ⟨i + 1, rfl, ?_⟩)); rotate_left; (simp (disch := omega) only [go_sem, Nat.reduceBEq, q0, q1, q7, q8, true_and, Int.natCast_add, Int.natCast_one]); rotate_left
  ·omega
  ·refine ⟨by omega, fun j hj h => ?_⟩
   by_cases e : j = i
   ·subst e; assumption
   ·exact qp1 j (by omega) h
 ·refine z1e ?_
  have hi : i = l.length := by omega
  subst hi
  rw [z39 (k := l.length) (by omega) (fun j hj => qp1 j hj (by omega)) (fun h => by omega), if_neg (by omega)]
theorem z6l (nn : Bool) (l : List Idv) (hl : l.length <= maxLen) {g : FuncId} {cap : List D} (f : Idv -> Bool) (hc : pureD.pureL cap = true) (hp : ∀ x ∈ l, PC prog g (z0n x :: cap) (.bool (f x))) :
  PC prog 111 [.rsl nn 3 (l.map z0n), .fn g cap] (.bool (l.any f)) := by
 have h := zjr nn l hl f hc hp
 refine z1g 1 (by simp only [pureD.pureL, pureD, hc, z0x (f := z0n) (fun _ => rfl) l, Bool.and_self]) rfl (z14 [] func111 rfl (by decide +kernel) rfl ?_)
 show awp _ _ (Code.seq _ _) _ _
 repeat' (first | ((first | refine zqh fun K J => ?_ | refine zqs (h) ?_); (simp (disch := omega) only [go_sem, Nat.reduceBEq, ↓reduceIte])) | refine zqn ?_ | refine zqu (by simp only [go_sem]; rfl) rfl ?_ | (refine J _ ?_; clear J K))
 refine z03 ?_
 rw [<- z95]
 by_cases h : z2v f l < l.length
 ·rw [if_pos h]; simp [h]
 ·rw [if_neg h]; simp [h]
theorem zck (nn : Bool) (l : List T) (hl : l.length <= maxLen) {g : FuncId} {cap : List D} (f : T -> Bool) (hc : pureD.pureL cap = true) (hp : ∀ x ∈ l, PC prog g (z0m x :: cap) (.bool (f x))) :
  PC prog 137 [.rsl nn 8 (l.map z0m), .fn g cap] (.int .i64 (if z2v f l < l.length then (z2v f l : Int) else -1)) := by
 unfold maxLen at hl
 refine z1g 1 (by simp only [pureD.pureL, pureD, hc, z0x (f := z0m) (z02) l, Bool.and_self]) rfl (z14 [] func137 rfl (by decide +kernel) rfl ?_)
 show awp _ _ (Code.seq _ _) _ _
 repeat' (first | refine zqj ?_ | ((refine zqh fun K J => ?_); (simp (disch := omega) only [go_sem, Nat.reduceBEq])) | refine zqa ?_ | (refine J _ ?_; clear J K))
 (refine z4m (fun U st => ∃ (i : _), U = l.length - i /\ st.t 0 = .rsl nn 8 (l.map z0m) /\ st.t 1 = .fn g cap /\ st.t 7 = .int .i64 l.length /\ st.t 8 = .int .i64 i /\ (i <= l.length) /\ (∀ j, (hj : j < i) -> (h : j < l.length) -> f l[j] = false)) ?_ ?_); rotate_left; (rintro U st ⟨i, rfl, q0, q1, q7, q8, qp0, qp1⟩); rotate_left
 ·(refine ⟨_, 0, rfl, ?_⟩); (simp (disch := omega) only [go_sem, Nat.reduceBEq, true_and, Int.natCast_zero])
  intro j hj; omega
 have hp := fun (h : i < l.length) => hp l[i] (List.getElem_mem h)
 repeat' (first | ((first | refine zqh fun K J => ?_ | refine zqr fun K J => ?_ | refine zqs (hp (by omega)) ?_); (simp (disch := omega) only [go_sem, Nat.reduceBEq, ↓reduceIte, reduceCtorEq, Nat.reduceAdd, q0, q1, q7, q8])) | ((first | refine zqd _ rfl (fun hc => ?_) (fun hc => ?_) | refine zqm _ rfl (fun hc => ?_) (fun hc => ?_)) <;> (((try simp only [z0b] at hc); (try omega)))) | refine zqa ?_ | refine zqb ?_ | refine zqc ?_ | refine zqk ?_ | refine zqn ?_ | refine zqv ?_ | refine zqx ?_ | refine zqy ?_ | refine zqz ?_ | refine z6q ?_ | refine zqp ?_ | refine zqo ?_ | refine zqu (by simp only [go_sem]; rfl) rfl ?_ | (refine J _ ?_; clear J K))
 ·refine z1e ?_
  rw [z39 (k := i) (by omega) (fun j hj => qp1 j hj (by omega)) (fun h => by assumption), if_pos (by omega)]
 ·(refine Exists.intro _ (And.intro ?_ ⟨i + 1, rfl, ?_⟩)); rotate_left; (simp (disch := omega) only [go_sem, Nat.reduceBEq, q0, q1, q7, q8, true_and, Int.natCast_add, Int.natCast_one]); rotate_left
  ·omega
  ·refine ⟨by omega, fun j hj h => ?_⟩
   by_cases e : j = i
   ·subst e; assumption
   ·exact qp1 j (by omega) h
 ·refine z1e ?_
  have hi : i = l.length := by omega
  subst hi
  rw [z39 (k := l.length) (by omega) (fun j hj => qp1 j hj (by omega)) (fun h => by omega), if_neg (by omega)]
theorem zey (nn : Bool) (l : List T) (hl : l.length <= maxLen) {g : FuncId} {cap : List D} (f : T -> Bool) (hc : pureD.pureL cap = true) (hp : ∀ x ∈ l, PC prog g (z0m x :: cap) (.bool (f x))) :
  PC prog 132 [.rsl nn 8 (l.map z0m), .fn g cap] (.bool (l.any f)) := by
 have h := zck nn l hl f hc hp
 refine z1g 1 (by simp only [pureD.pureL, pureD, hc, z0x (f := z0m) (z02) l, Bool.and_self]) rfl (z14 [] func132 rfl (by decide +kernel) rfl ?_)
 show awp _ _ (Code.seq _ _) _ _
 repeat' (first | ((first | refine zqh fun K J => ?_ | refine zqs (h) ?_); (simp (disch := omega) only [go_sem, Nat.reduceBEq, ↓reduceIte])) | refine zqn ?_ | refine zqu (by simp only [go_sem]; rfl) rfl ?_ | (refine J _ ?_; clear J K))
 refine z03 ?_
 rw [<- z95]
 by_cases h : z2v f l < l.length
 ·rw [if_pos h]; simp [h]
 ·rw [if_neg h]; simp [h]
def odd (b : UInt8) : Bool := decide ((b.toNat : Int) < 33) || decide (126 < (b.toNat : Int))
theorem odd_ink : (fun b : UInt8 => !odd b) = ink := by
 funext b
 unfold odd ink
 rcases Nat.lt_or_ge b.toNat 33 with h | h
 ·rw [decide_eq_true (show (b.toNat : Int) < 33 by omega), decide_eq_false (show ¬ (33 <= b.toNat /\ b.toNat <= 126) by omega)]; rfl
 ·rw [decide_eq_false (show ¬ (b.toNat : Int) < 33 by omega)]
  rcases Nat.lt_or_ge 126 b.toNat with h2 | h2
  ·rw [decide_eq_true (show (126 : Int) < b.toNat by omega), decide_eq_false (show ¬ (33 <= b.toNat /\ b.toNat <= 126) by omega)]; rfl
  ·rw [decide_eq_false (show ¬ (126 : Int) < b.toNat by omega), decide_eq_true (show 33 <= b.toNat /\ b.toNat <= 126 by omega)]; rfl
theorem any_odd (l : List UInt8) : l.any odd = !l.all ink := by
 rw [<- odd_ink, <- List.not_any_eq_all_not, Bool.not_not]
theorem zw4 (s : ByteArray) : zrd s = (bl s).map zww := rfl
theorem pc_word1 (b : UInt8) : PC prog 192 [zww b] (.bool (odd b)) := by
 refine z1g 1 rfl rfl (z14 [] func192 rfl (by decide +kernel) rfl ?_)
 show awp _ _ (Code.seq _ _) _ _
 repeat' (first | ((refine zqh fun K J => ?_); (simp (disch := omega) only [go_sem, Nat.reduceBEq, ↓reduceIte, zww])) | refine zqn ?_ | refine zqu (by simp only [go_sem]; rfl) rfl ?_ | (refine J _ ?_; clear J K) | (refine zqf (fun hb => ?_) (fun hb => ?_) <;> (have hb2 := hb; try simp only [z0b] at hb2) <;> ((first | have hb3 := eq_false hb2 | have hb3 := eq_true hb2); (simp (disch := omega) only [go_sem, Nat.reduceBEq, ↓reduceIte, hb3]); clear hb hb3; (try omega))))
 ·exact z03 (by unfold odd; rw [decide_eq_false (show ¬ (b.toNat : Int) < 33 by assumption)]; rfl)
 ·exact z03 (by unfold odd; rw [decide_eq_true (show (b.toNat : Int) < 33 by assumption)]; rfl)
theorem zhk {s : ByteArray} (h : ¬ s = ⟨#[]⟩) : 1 <= s.size := by
 rcases Nat.eq_zero_or_pos s.size with h0 | h0
 ·exfalso; apply h
  obtain ⟨a⟩ := s
  rw [ByteArray.mk.injEq]
  exact Array.eq_empty_of_size_eq_zero h0
 ·exact h0
theorem pc_wordP (s : ByteArray) (hs : s.size <= maxLen) : PC prog 178 [.str s] (.bool (z6e s)) := by
 have h := zev true (bl s) (by rw [z23]; exact hs) (cap := []) odd rfl (fun b _ => pc_word1 b)
 rw [any_odd] at h
 unfold maxLen at hs
 refine z1g 1 rfl rfl (z14 [] func178 rfl (by decide +kernel) rfl ?_)
 show awp _ _ (Code.seq _ _) _ _
 repeat' (first | ((first | refine zqh fun K J => ?_ | refine zqs (h) ?_); (simp (disch := omega) only [go_sem, Nat.reduceBEq, ↓reduceIte])) | refine zqn ?_ | refine zqu (by simp only [go_sem]; rfl) rfl ?_ | (refine J _ ?_; clear J K) | (refine zqf (fun hb => ?_) (fun hb => ?_) <;> (have hb2 := hb; try simp only [z0b] at hb2) <;> ((first | have hb3 := eq_false hb2 | have hb3 := eq_true hb2); (simp (disch := omega) only [go_sem, Nat.reduceBEq, ↓reduceIte, hb3, zw4]); clear hb hb3; (try omega))))
 ·have hpos := zhk (by assumption)
  exact z03 (by unfold z6e; rw [decide_eq_true (by omega), Bool.true_and, Bool.not_not])
 ·exact z03 (by unfold z6e; rw [decide_eq_false (by omega)]; rfl)
 ·have he : s = ⟨#[]⟩ := by assumption
  subst he
  exact z03 rfl
theorem zsn (s : ByteArray) (hs : s.size <= maxLen) : PC prog 177 [.str s] (.bool (!z6e s)) := by
 have h := pc_wordP s hs
 refine z1g 1 rfl rfl (z14 [] func177 rfl (by decide +kernel) rfl ?_)
 show awp _ _ (Code.seq _ _) _ _
 repeat' (first | ((first | refine zqh fun K J => ?_ | refine zqs (h) ?_); (simp (disch := omega) only [go_sem, Nat.reduceBEq])) | refine zqn ?_ | refine zqu (by simp only [go_sem]; rfl) rfl ?_ | (refine J _ ?_; clear J K))
 exact z03 rfl
theorem zi8 (nn : Bool) (l : List ByteArray) (hl : l.length <= maxLen) (hs : ∀ s ∈ l, s.size <= maxLen) : PC prog 140 [.rsl nn 1 (l.map .str)] (.bool (zx9 l)) := by
 have h := zew nn l hl (cap := []) (fun s => !z6e s) rfl (fun s hs' => zsn s (hs s hs'))
 rw [show (l.any fun s => !z6e s) = !l.all z6e from by rw [<- List.not_all_eq_any_not]] at h
 unfold maxLen at hl
 refine z1g 1 (by simp only [pureD.pureL, pureD, z0x (f := D.str) (fun _ => rfl) l, Bool.and_self]) rfl (z14 [] func140 rfl (by decide +kernel) rfl ?_)
 show awp _ _ (Code.seq _ _) _ _
 repeat' (first | ((first | refine zqh fun K J => ?_ | refine zqs (h) ?_); (simp (disch := omega) only [go_sem, Nat.reduceBEq, ↓reduceIte])) | refine zqn ?_ | refine zqu (by simp only [go_sem]; rfl) rfl ?_ | (refine J _ ?_; clear J K) | (refine zqf (fun hb => ?_) (fun hb => ?_) <;> (have hb2 := hb; try simp only [z0b] at hb2) <;> ((first | have hb3 := eq_false hb2 | have hb3 := eq_true hb2); (simp (disch := omega) only [go_sem, Nat.reduceBEq, ↓reduceIte, hb3]); clear hb hb3; (try omega))))
 ·exact z03 (by unfold zx9; rw [decide_eq_true (by omega), Bool.true_and, Bool.not_not])
 ·exact z03 (by unfold zx9; rw [decide_eq_false (by omega)]; rfl)
theorem zw5 (l : List Wd) (hl : l.length <= 1000000) (hs : ∀ w ∈ l, w.text.size <= maxLen) : PC prog 189 [z0r l] (.bool (zij l)) := by
 have h := zi8 false (l.map (·.text)) (by unfold maxLen; simp; omega) (fun s hs' => by obtain ⟨w, hw, rfl⟩ := List.mem_map.1 hs'; exact hs w hw)
 refine z1g 1 (by simp only [pureD.pureL, z0d, Bool.and_self]) rfl (z14 [3] func189 rfl (by decide +kernel) rfl ?_)
 show awp _ _ (Code.seq _ _) _ _
 repeat' (first | refine zqj ?_ | ((refine zqh fun K J => ?_); (simp (disch := omega) only [go_sem, Nat.reduceBEq, ↓reduceIte, z0r])) | refine zqa ?_ | (refine J _ ?_; clear J K))
 (refine z4m (fun U st => ∃ (i : _), U = l.length - i /\ st.t 0 = z0r l /\ st.t 6 = z0r l /\ st.t 7 = .int .i64 l.length /\ st.t 8 = .int .i64 i /\ st.t 3 = .osl 0 i /\ st.H 0 = some (.row 9 i (((l.take i).map (·.text)).map .str)) /\ (i <= l.length) /\ (1 <= st.nx)) ?_ ?_); rotate_left; (rintro U st ⟨i, rfl, q0, q6, q7, q8, q3, qH0, qp0, qp1⟩); rotate_left
 ·(refine ⟨_, 0, rfl, ?_⟩); (simp (disch := omega) only [go_sem, Nat.reduceBEq, Nat.reduceLeDiff, and_self, Int.natCast_zero, List.map_nil, z0r])
 have htk : ∀ h : i < l.length, l.take (i + 1) = l.take i ++ [l[i]] := fun h => List.take_succ_eq_append_getElem h
 repeat' (first | ((first | refine zqh fun K J => ?_ | refine zqr fun K J => ?_); (simp (disch := omega) only [go_sem, Nat.reduceBEq, ↓reduceIte, reduceCtorEq, Nat.reduceAdd, Nat.reduceLeDiff, Nat.reduceLT, q0, q6, q7, q8, q3, qH0, z0r])) | ((refine zqd _ rfl (fun hc => ?_) (fun hc => ?_)) <;> (((try simp only [z0b] at hc); (try omega)))) | refine zqa ?_ | refine zqb ?_ | refine zqc ?_ | refine zqn ?_ | refine zqv ?_ | refine zqy ?_ | refine zqz ?_ | refine zqp ?_ | refine zqu (by simp only [go_sem]; rfl) rfl ?_ | (refine J _ ?_; clear J K) | (refine zqf (fun hb => ?_) (fun hb => ?_) <;> (have hb2 := hb; try simp only [z0b] at hb2) <;> ((first | have hb3 := eq_false hb2 | have hb3 := eq_true hb2); (simp (disch := omega) only [go_sem, Nat.reduceBEq, ↓reduceIte, hb3, q3]); clear hb hb3; (try omega))))
 ·have htk := htk (by omega)
  (refine Exists.intro _ (And.intro ?_ ⟨i + 1, rfl, ?_⟩)); rotate_left; (simp (disch := omega) only [go_sem, Nat.reduceBEq, Nat.reduceLeDiff, q0, q6, q7, q8, q3, qH0, true_and, and_true, Int.natCast_add, Int.natCast_one, List.map_append, List.map_cons, List.map_nil, htk]); rotate_left
  ·omega
  ·omega
 ·have hi : i = l.length := by omega
  subst hi
  rw [List.take_length] at qH0
  refine z1d (PC.borrow h rfl 3 (z00 (zlv 1 qH0 z98 zik (by simp) (zjg _)) z0c)) ?_
  (try (simp (disch := omega) only [go_sem, Nat.reduceBEq, ↓reduceIte])); repeat' (first | refine zqn ?_ | refine zqu (by simp only [go_sem]; rfl) rfl ?_ | (refine J _ ?_; clear J K))
  exact z03 (by rw [zjy, decide_eq_true (by omega)]; rfl)
 ·exact z03 (by rw [zjy, decide_eq_false (by omega)]; rfl)
def nameL : List ByteArray := [⟨#[98, 111, 111, 107]⟩, ⟨#[112, 97, 114, 116]⟩, ⟨#[115, 101, 99, 116, 105, 111, 110]⟩, ⟨#[112, 97, 114, 97, 103, 114, 97, 112, 104]⟩, ⟨#[116, 97, 98, 108, 101]⟩, ⟨#[114, 111, 119]⟩, ⟨#[99, 101, 108, 108]⟩, ⟨#[110, 111, 116, 101]⟩]
def zo6 (k : Int) : ByteArray := if 0 <= k /\ k < 8 then nameL.getD k.toNat ByteArray.empty else ByteArray.empty
theorem zw6 {k : Int} (h : 0 <= k /\ k < 8) : k = 0 \/ k = 1 \/ k = 2 \/ k = 3 \/ k = 4 \/ k = 5 \/ k = 6 \/ k = 7 := by omega
theorem zo7 (k : Int) : PC prog 188 [.int .i64 k] (.str (zo6 k)) := by
 refine z1g 1 rfl rfl (z14 [] func188 rfl (by decide +kernel) rfl ?_)
 show awp _ _ (Code.seq _ _) _ _
 have h8 : ((8 : Nat) : Int) = 8 := rfl
 by_cases hk : 0 <= k /\ k < 8
 ·rcases zw6 hk with rfl | rfl | rfl | rfl | rfl | rfl | rfl | rfl
  all_goals clear hk
  all_goals (repeat' (first | refine zqj ?_ | ((refine zqh fun K J => ?_); (simp (disch := omega) only [go_sem, Nat.reduceBEq, ↓reduceIte, reduceCtorEq, Nat.reduceAdd, Int.reduceLT, Int.reduceLE, Int.reduceToNat, h8])) | ((refine zqd _ rfl (fun hc => ?_) (fun hc => ?_)) <;> (first | (cases hc; done) | ((try simp only [] at hc); (try omega)))) | refine zqb ?_ | refine zqn ?_ | refine zqu (by simp only [go_sem]; rfl) rfl ?_ | (refine J _ ?_; clear J K)))
  all_goals exact z0a rfl (Le.refl _)
 ·rw [show zo6 k = ByteArray.empty from if_neg hk]
  repeat' (first | refine zqj ?_ | ((refine zqh fun K J => ?_); (simp (disch := omega) only [go_sem, Nat.reduceBEq, ↓reduceIte])) | ((refine zqd _ rfl (fun hc => ?_) (fun hc => ?_)) <;> (first | (cases hc; done) | ((try simp only [z0b] at hc); (try omega)))) | refine zqg ?_ | refine zqu (by simp only [go_sem]; rfl) rfl ?_ | (refine J _ ?_; clear J K) | (refine zqf (fun hb => ?_) (fun hb => ?_) <;> (have hb2 := hb; try simp only [z0b] at hb2) <;> ((first | have hb3 := eq_false hb2 | have hb3 := eq_true hb2); (simp (disch := omega) only [go_sem, Nat.reduceBEq, ↓reduceIte, hb3]); clear hb hb3; (try omega))))
  all_goals exact z0a rfl (Le.refl _)
def belowL : List (List Int) := [[1, 2], [2], [3, 4, 7], [3, 4, 7], [5], [6], [], []]
def z1o (p k : Int) : Bool := if 0 <= p /\ p < 8 then (belowL.getD p.toNat []).any (fun x => decide (k = x)) else false
theorem zw7 (l : List Int) (hl : l.length <= maxLen) (k : Int) : PC prog 173 [encI l, .int .i64 k] (.int .i64 (if z2v (fun x => decide (k = x)) l < l.length then (z2v (fun x => decide (k = x)) l : Int) else -1)) := by
 unfold maxLen at hl
 refine z1g 1 (by simp only [pureD.pureL, pureD, zlw, Bool.and_self]) rfl (z14 [] func173 rfl (by decide +kernel) rfl ?_)
 show awp _ _ (Code.seq _ _) _ _
 repeat' (first | refine zqj ?_ | ((refine zqh fun K J => ?_); (simp (disch := omega) only [go_sem, Nat.reduceBEq, encI])) | refine zqa ?_ | (refine J _ ?_; clear J K))
 (refine z4m (fun U st => ∃ (i : _), U = l.length - i /\ st.t 0 = encI l /\ st.t 1 = .int .i64 k /\ st.t 7 = .int .i64 l.length /\ st.t 8 = .int .i64 i /\ (i <= l.length) /\ (∀ j, (hj : j < i) -> (h : j < l.length) -> decide (k = l[j]) = false)) ?_ ?_); rotate_left; (rintro U st ⟨i, rfl, q0, q1, q7, q8, qp0, qp1⟩); rotate_left
 ·(refine ⟨_, 0, rfl, ?_⟩); (simp (disch := omega) only [go_sem, Nat.reduceBEq, true_and, Int.natCast_zero, encI])
  intro j hj; omega
 repeat' (first | ((first | refine zqh fun K J => ?_ | refine zqr fun K J => ?_); (simp (disch := omega) only [go_sem, Nat.reduceBEq, ↓reduceIte, reduceCtorEq, Nat.reduceAdd, q0, q1, q7, q8, encI])) | ((first | refine zqd _ rfl (fun hc => ?_) (fun hc => ?_) | refine zqm _ rfl (fun hc => ?_) (fun hc => ?_)) <;> (((try simp only [z0b] at hc); (try omega)))) | refine zqa ?_ | refine zqb ?_ | refine zqc ?_ | refine zqk ?_ | refine zqn ?_ | refine zqv ?_ | refine zqx ?_ | refine zqy ?_ | refine zqz ?_ | refine z6q ?_ | refine zqp ?_ | refine zqo ?_ | refine zqu (by simp only [go_sem]; rfl) rfl ?_ | (refine J _ ?_; clear J K))
 ·refine z1e ?_
  have hf := z39 (f := fun x => decide (k = x)) (l := l) (k := i) (by omega) (fun j hj => qp1 j hj (by omega)) (fun h => decide_eq_true (by assumption))
  rw [hf, if_pos (by omega)]
 ·(refine Exists.intro _ (And.intro ?_ ⟨i + 1, rfl, ?_⟩)); rotate_left; (simp (disch := omega) only [go_sem, Nat.reduceBEq, q0, q1, q7, q8, true_and, Int.natCast_add, Int.natCast_one]); rotate_left
  ·omega
  ·refine ⟨by omega, fun j hj h => ?_⟩
   by_cases e : j = i
   ·subst e; exact decide_eq_false (by assumption)
   ·exact qp1 j (by omega) h
 ·refine z1e ?_
  have hi : i = l.length := by omega
  subst hi
  have hf := z39 (f := fun x => decide (k = x)) (l := l) (k := l.length) (by omega) (fun j hj => qp1 j hj (by omega)) (fun h => by omega)
  rw [hf, if_neg (by omega)]
theorem zlo (l : List Int) (hl : l.length <= maxLen) (k : Int) : PC prog 130 [encI l, .int .i64 k] (.bool (l.any fun x => decide (k = x))) := by
 have h := zw7 l hl k
 refine z1g 1 (by simp only [pureD.pureL, pureD, zlw, Bool.and_self]) rfl (z14 [] func130 rfl (by decide +kernel) rfl ?_)
 show awp _ _ (Code.seq _ _) _ _
 repeat' (first | ((first | refine zqh fun K J => ?_ | refine zqs (h) ?_); (simp (disch := omega) only [go_sem, Nat.reduceBEq, ↓reduceIte])) | refine zqn ?_ | refine zqu (by simp only [go_sem]; rfl) rfl ?_ | (refine J _ ?_; clear J K))
 refine z03 ?_
 rw [<- z95]
 by_cases h : z2v (fun x => decide (k = x)) l < l.length
 ·rw [if_pos h]; simp [h]
 ·rw [if_neg h]; simp [h]
theorem z91 (p k : Int) : PC prog 73 [.int .i64 p, .int .i64 k] (.bool (z1o p k)) := by
 refine z1g 1 rfl rfl (z14 [] func73 rfl (by decide +kernel) rfl ?_)
 show awp _ _ (Code.seq _ _) _ _
 have h8 : ((8 : Nat) : Int) = 8 := rfl
 by_cases hk : 0 <= p /\ p < 8
 ·have hc := fun l hl => zlo l hl k
  rcases zw6 hk with rfl | rfl | rfl | rfl | rfl | rfl | rfl | rfl
  all_goals clear hk
  ·repeat' (first | ((first | refine zqh fun K J => ?_ | ((refine zqs (PC.le (hc [1, 2] (by decide)) ?_ ?_) ?_); (focus ((rfl); done)); (focus ((repeat' (first | exact trivial | exact Le.refl _ | exact Le.rsl | refine ⟨?_, ?_⟩)); done)))); (simp (disch := omega) only [go_sem, Nat.reduceBEq, ↓reduceIte, reduceCtorEq, Nat.reduceAdd, Int.reduceLT, Int.reduceLE, Int.reduceToNat, h8])) | refine zqn ?_ | refine zqu (by simp only [go_sem]; rfl) rfl ?_ | (refine J _ ?_; clear J K))
   exact z03 (by simp [z1o, belowL])
  ·repeat' (first | ((first | refine zqh fun K J => ?_ | ((refine zqs (PC.le (hc [2] (by decide)) ?_ ?_) ?_); (focus ((rfl); done)); (focus ((repeat' (first | exact trivial | exact Le.refl _ | exact Le.rsl | refine ⟨?_, ?_⟩)); done)))); (simp (disch := omega) only [go_sem, Nat.reduceBEq, ↓reduceIte, reduceCtorEq, Nat.reduceAdd, Int.reduceLT, Int.reduceLE, Int.reduceToNat, h8])) | refine zqn ?_ | refine zqu (by simp only [go_sem]; rfl) rfl ?_ | (refine J _ ?_; clear J K))
   exact z03 (by simp [z1o, belowL])
  ·repeat' (first | ((first | refine zqh fun K J => ?_ | ((refine zqs (PC.le (hc [3, 4, 7] (by decide)) ?_ ?_) ?_); (focus ((rfl); done)); (focus ((repeat' (first | exact trivial | exact Le.refl _ | exact Le.rsl | refine ⟨?_, ?_⟩)); done)))); (simp (disch := omega) only [go_sem, Nat.reduceBEq, ↓reduceIte, reduceCtorEq, Nat.reduceAdd, Int.reduceLT, Int.reduceLE, Int.reduceToNat, h8])) | refine zqn ?_ | refine zqu (by simp only [go_sem]; rfl) rfl ?_ | (refine J _ ?_; clear J K))
   exact z03 (by simp [z1o, belowL])
  ·repeat' (first | ((first | refine zqh fun K J => ?_ | ((refine zqs (PC.le (hc [3, 4, 7] (by decide)) ?_ ?_) ?_); (focus ((rfl); done)); (focus ((repeat' (first | exact trivial | exact Le.refl _ | exact Le.rsl | refine ⟨?_, ?_⟩)); done)))); (simp (disch := omega) only [go_sem, Nat.reduceBEq, ↓reduceIte, reduceCtorEq, Nat.reduceAdd, Int.reduceLT, Int.reduceLE, Int.reduceToNat, h8])) | refine zqn ?_ | refine zqu (by simp only [go_sem]; rfl) rfl ?_ | (refine J _ ?_; clear J K))
   exact z03 (by simp [z1o, belowL])
  ·repeat' (first | ((first | refine zqh fun K J => ?_ | ((refine zqs (PC.le (hc [5] (by decide)) ?_ ?_) ?_); (focus ((rfl); done)); (focus ((repeat' (first | exact trivial | exact Le.refl _ | exact Le.rsl | refine ⟨?_, ?_⟩)); done)))); (simp (disch := omega) only [go_sem, Nat.reduceBEq, ↓reduceIte, reduceCtorEq, Nat.reduceAdd, Int.reduceLT, Int.reduceLE, Int.reduceToNat, h8])) | refine zqn ?_ | refine zqu (by simp only [go_sem]; rfl) rfl ?_ | (refine J _ ?_; clear J K))
   exact z03 (by simp [z1o, belowL])
  ·repeat' (first | ((first | refine zqh fun K J => ?_ | ((refine zqs (PC.le (hc [6] (by decide)) ?_ ?_) ?_); (focus ((rfl); done)); (focus ((repeat' (first | exact trivial | exact Le.refl _ | exact Le.rsl | refine ⟨?_, ?_⟩)); done)))); (simp (disch := omega) only [go_sem, Nat.reduceBEq, ↓reduceIte, reduceCtorEq, Nat.reduceAdd, Int.reduceLT, Int.reduceLE, Int.reduceToNat, h8])) | refine zqn ?_ | refine zqu (by simp only [go_sem]; rfl) rfl ?_ | (refine J _ ?_; clear J K))
   exact z03 (by simp [z1o, belowL])
  ·repeat' (first | ((first | refine zqh fun K J => ?_ | ((refine zqs (PC.le (hc [] (by decide)) ?_ ?_) ?_); (focus ((rfl); done)); (focus ((repeat' (first | exact trivial | exact Le.refl _ | exact Le.nil _ | refine ⟨?_, ?_⟩)); done)))); (simp (disch := omega) only [go_sem, Nat.reduceBEq, ↓reduceIte, reduceCtorEq, Nat.reduceAdd, Int.reduceLT, Int.reduceLE, Int.reduceToNat, h8])) | refine zqn ?_ | refine zqu (by simp only [go_sem]; rfl) rfl ?_ | (refine J _ ?_; clear J K))
   exact z03 (by simp [z1o, belowL])
  ·repeat' (first | ((first | refine zqh fun K J => ?_ | ((refine zqs (PC.le (hc [] (by decide)) ?_ ?_) ?_); (focus ((rfl); done)); (focus ((repeat' (first | exact trivial | exact Le.refl _ | exact Le.nil _ | refine ⟨?_, ?_⟩)); done)))); (simp (disch := omega) only [go_sem, Nat.reduceBEq, ↓reduceIte, reduceCtorEq, Nat.reduceAdd, Int.reduceLT, Int.reduceLE, Int.reduceToNat, h8])) | refine zqn ?_ | refine zqu (by simp only [go_sem]; rfl) rfl ?_ | (refine J _ ?_; clear J K))
   exact z03 (by simp [z1o, belowL])
 ·rw [show z1o p k = false from if_neg hk]
  repeat' (first | ((refine zqh fun K J => ?_); (simp (disch := omega) only [go_sem, Nat.reduceBEq, ↓reduceIte])) | refine zqn ?_ | refine zqu (by simp only [go_sem]; rfl) rfl ?_ | (refine J _ ?_; clear J K) | (refine zqf (fun hb => ?_) (fun hb => ?_) <;> (have hb2 := hb; try simp only [z0b] at hb2) <;> ((first | have hb3 := eq_false hb2 | have hb3 := eq_true hb2); (simp (disch := omega) only [go_sem, Nat.reduceBEq, ↓reduceIte, reduceCtorEq, hb3]); clear hb hb3; (try omega))))
  all_goals exact z03 rfl
end
end Go.Proofs.YtmnabhhdiinfaaaGreatDoor
